-- WRITTEN BY a program of this work (wip/ownprint.py), for this seat
import Derived.Test.YtmnppogihmhdgaaDoorPPx0
namespace Go.Proofs.YtmnppogihmhdgaaDoor.PP
open Go.RowKit Go.Proofs.YtmnppogihmhdgaaDoorW.PrintWords Go.Proofs.YtmnppogihmhdgaaDoorW.PrintLast Go.Proofs.YtmnppogihmhdgaaDoorW.PrintMore
attribute [local go_sem] max2_int min2_int max_two min_two max_three min_three max_four min_four   -- for this text's walks alone
set_option linter.unusedVariables false
set_option linter.unusedSimpArgs false

/-! ### merkle_leaves: function 21 -/
def merkle_leaves.f (a0 : Int) : Option (Bool) := if a0 ≥ 1 then (if a0 ≤ 16 then (some ((Go.bits .and .i64 a0 (wrap64 (a0 - 1))) == 0)) else (some false)) else (some false)
set_option maxHeartbeats 64000000 in
set_option maxRecDepth 100000 in
theorem merkle_leaves.calls (a0 : Int) (r : Bool) (w : World) (h : merkle_leaves.f a0 = some r) :
 Calls Tryd.prog 21 #[.int .i64 a0] w fun e w' => e = .returned (.bool r) ∧ Drawn0 w w' := by
 have H : (if a0 ≥ 1 then (if a0 ≤ 16 then (some ((Go.bits .and .i64 a0 (wrap64 (a0 - 1))) == 0)) else (some false)) else (some false)) = some r := h
 clear h
 by_cases c2 : a0 ≥ 1
 ·rw [if_pos c2] at H
  have c2b0 : decide (1 ≤ a0) = true := decide_eq_true c2
  clear c2
  by_cases c3 : a0 ≤ 16
  ·rw [if_pos c3] at H
   have c3b0 : decide (a0 ≤ 16) = true := decide_eq_true c3
   clear c3
   obtain rfl := Option.some.inj H
   go_enter Tryd.func21, Tryd.ntmps21
   go_wp2
   go_ret
   exact ⟨by first | rfl | (simp; done) | (simp [*]; done) | exact congrArg Value.bool (nonempty_l _) | (refine congrArg (Value.int _) ?_; first | omega | (unfold Go.RowKit.wrap64; omega)), by repeat (first | exact Drawn0.refl _ | apply Drawn0.step)⟩
  ·rw [if_neg c3] at H
   have c3b0 : decide (a0 ≤ 16) = false := decide_eq_false c3
   clear c3
   obtain rfl := Option.some.inj H
   go_enter Tryd.func21, Tryd.ntmps21
   go_wp2
   go_ret
   exact ⟨by first | rfl | (simp; done) | (simp [*]; done) | exact congrArg Value.bool (nonempty_l _) | (refine congrArg (Value.int _) ?_; first | omega | (unfold Go.RowKit.wrap64; omega)), by repeat (first | exact Drawn0.refl _ | apply Drawn0.step)⟩
 ·rw [if_neg c2] at H
  have c2b0 : decide (1 ≤ a0) = false := decide_eq_false c2
  clear c2
  obtain rfl := Option.some.inj H
  go_enter Tryd.func21, Tryd.ntmps21
  go_wp2
  go_ret
  exact ⟨by first | rfl | (simp; done) | (simp [*]; done) | exact congrArg Value.bool (nonempty_l _) | (refine congrArg (Value.int _) ?_; first | omega | (unfold Go.RowKit.wrap64; omega)), by repeat (first | exact Drawn0.refl _ | apply Drawn0.step)⟩

/-! ### sha_begin: function 33 -/
def sha_begin.f : Option Unit := some ()
set_option maxHeartbeats 8000000 in
set_option maxRecDepth 100000 in
theorem sha_begin.calls (w : World) (h : sha_begin.f = some ()) :
    Calls Tryd.prog 33 #[] w fun e w' => e = .returned (.agg #[.int .u32 1779033703, .int .u32 3144134277, .int .u32 1013904242, .int .u32 2773480762, .int .u32 1359893119, .int .u32 2600822924, .int .u32 528734635, .int .u32 1541459225]) ∧ Below w.heap.size w w' := by
  go_enter Tryd.func33, Tryd.ntmps33
  go_wp2_with (first
    | ((with_reducible refine gate_dst (N := 0) rfl ?_); refine Kd.event_run (w1 := w.alloc (.cells (encs (Value.int .u32) (List.replicate 8 0)).toArray 56)) (v := .pointer (some ⟨w.heap.size, 0, none⟩)) ?hg ?hr ?_; (case hg => rfl); (case hr => first | (go_simp; done) | (go_simp; rfl)); obtain ⟨W1, hW1⟩ : ∃ W1, W1 = w.alloc (.cells (encs (Value.int .u32) (List.replicate 8 0)).toArray 56) := ⟨_, rfl⟩; rw [← hW1]; have hh : W1.heap[w.heap.size]? = some (.cells (encs (Value.int .u32) (List.replicate 8 0)).toArray 56 (0, 0)) := (by rw [hW1]; exact heap_alloc_new w _); have hb : Below w.heap.size w W1 := (by rw [hW1]; exact below_alloc (Below.refl _ _) _); clear hW1)
    | ((with_reducible refine gate_store (t := 56) (p := 0) rfl ?_); refine store_event (t := 56) (p := 0) (v := ?vo) (w1 := W1.setCells w.heap.size 0 (encs (Value.int .u32) [1779033703, 3144134277, 1013904242, 2773480762, 1359893119, 2600822924, 528734635, 1541459225])) ?hg ?ho ?hn ?hr ?_; (case ho => rfl); (case hg => rfl); (case hn => rfl); (case hr => exact store_run0 [1779033703, 3144134277, 1013904242, 2773480762, 1359893119, 2600822924, 528734635, 1541459225] rfl rfl rfl (by kernel_rfl) hh (by rfl)); intro W2 hw; have hh2 := store_heap0 (encs (Value.int .u32) [1779033703, 3144134277, 1013904242, 2773480762, 1359893119, 2600822924, 528734635, 1541459225]) hh (by rfl); have hb2 := store_below0 (encs (Value.int .u32) [1779033703, 3144134277, 1013904242, 2773480762, 1359893119, 2600822924, 528734635, 1541459225]) hb (Nat.le_refl _); rw [← hw] at hh2 hb2; clear hw hh hb))
  (try simp only [Exit.inBlock, Exit.then])
  refine bodyPost_ret (results_cell_row rfl _ _ w.heap.size 56 (encs (Value.int .u32) [1779033703, 3144134277, 1013904242, 2773480762, 1359893119, 2600822924, 528734635, 1541459225]).toArray (0, 0) _ rfl hh2 Tryd.underlying56 rfl (by kernel_rfl)) rfl ?_
  exact ⟨rfl, hb2⟩

/-! ### bits_RotateLeft32: function 40 -/
def bits_RotateLeft32.f (a0 : Int) (a1 : Int) : Option (Int) := if 0 ≤ (Go.bits .and .u64 (IntKind.u64.wrap (a1)) 31) then (if 0 ≤ (IntKind.u64.wrap (32 - (Go.bits .and .u64 (IntKind.u64.wrap (a1)) 31))) then (some (Go.bits .or .u32 (shl .u32 a0 (Go.bits .and .u64 (IntKind.u64.wrap (a1)) 31)) (shr .u32 a0 (IntKind.u64.wrap (32 - (Go.bits .and .u64 (IntKind.u64.wrap (a1)) 31)))))) else (none)) else (none)
set_option maxHeartbeats 64000000 in
set_option maxRecDepth 100000 in
theorem bits_RotateLeft32.calls (a0 : Int) (a1 : Int) (r : Int) (w : World) (h : bits_RotateLeft32.f a0 a1 = some r) :
 Calls Tryd.prog 40 #[.int .u32 a0, .int .i64 a1] w fun e w' => e = .returned (.int .u32 r) ∧ Drawn0 w w' := by
 have H : (if 0 ≤ (Go.bits .and .u64 (IntKind.u64.wrap (a1)) 31) then (if 0 ≤ (IntKind.u64.wrap (32 - (Go.bits .and .u64 (IntKind.u64.wrap (a1)) 31))) then (some (Go.bits .or .u32 (shl .u32 a0 (Go.bits .and .u64 (IntKind.u64.wrap (a1)) 31)) (shr .u32 a0 (IntKind.u64.wrap (32 - (Go.bits .and .u64 (IntKind.u64.wrap (a1)) 31)))))) else (none)) else (none)) = some r := h
 clear h
 obtain ⟨ji3, hji3⟩ : ∃ j_ : Int, (Go.bits .and .u64 (IntKind.u64.wrap (a1)) 31) = j_ := ⟨_, rfl⟩
 replace H : (if 0 ≤ (ji3) then (if 0 ≤ (IntKind.u64.wrap (32 - (ji3))) then (some (Go.bits .or .u32 (shl .u32 a0 (ji3)) (shr .u32 a0 (IntKind.u64.wrap (32 - (ji3)))))) else (none)) else (none)) = some r := by first | (rw [hji3] at H; exact H) | (simp only [hji3] at H ⊢; exact H)
 by_cases c4 : 0 ≤ (ji3)
 rotate_left
 ·rw [if_neg c4] at H
  exact absurd H (by simp)
 rw [if_pos c4] at H
 have c4b0 := eq_true c4
 have c4b1 : decide (0 ≤ (ji3)) = true := decide_eq_true c4
 clear c4
 obtain ⟨ji5, hji5⟩ : ∃ j_ : Int, (shl .u32 a0 (ji3)) = j_ := ⟨_, rfl⟩
 replace H : (if 0 ≤ (IntKind.u64.wrap (32 - (ji3))) then (some (Go.bits .or .u32 (ji5) (shr .u32 a0 (IntKind.u64.wrap (32 - (ji3)))))) else (none)) = some r := by first | (rw [hji5] at H; exact H) | (simp only [hji5] at H ⊢; exact H)
 have hji5_ : (IntKind.u32.wrap (a0 * 2 ^ min (ji3).toNat 32)) = ji5 := hji5
 have hji5z : (ji3) ≤ 32 → (IntKind.u32.wrap (a0 * 2 ^ (ji3).toNat)) = ji5 := shl_small hji5
 (try (have hji5n : (0 ≤ (ji3)) = True := eq_true (by omega)))
 obtain ⟨ji6, hji6⟩ : ∃ j_ : Int, (IntKind.u64.wrap (32 - (ji3))) = j_ := ⟨_, rfl⟩
 replace H : (if 0 ≤ (ji6) then (some (Go.bits .or .u32 (ji5) (shr .u32 a0 (ji6)))) else (none)) = some r := by first | (rw [hji6] at H; exact H) | (simp only [hji6] at H ⊢; exact H)
 by_cases c7 : 0 ≤ (ji6)
 rotate_left
 ·rw [if_neg c7] at H
  exact absurd H (by simp)
 rw [if_pos c7] at H
 have c7b0 := eq_true c7
 have c7b1 : decide (0 ≤ (ji6)) = true := decide_eq_true c7
 clear c7
 obtain ⟨ji8, hji8⟩ : ∃ j_ : Int, (shr .u32 a0 (ji6)) = j_ := ⟨_, rfl⟩
 replace H : (some (Go.bits .or .u32 (ji5) (ji8))) = some r := by first | (rw [hji8] at H; exact H) | (simp only [hji8] at H ⊢; exact H)
 have hji8_ : (a0 / 2 ^ min (ji6).toNat 32) = ji8 := hji8
 have hji8z : (ji6) ≤ 32 → (a0 / 2 ^ (ji6).toNat) = ji8 := shr_small hji8
 (try (have hji8n : (0 ≤ (ji6)) = True := eq_true (by omega)))
 obtain rfl := Option.some.inj H
 go_enter Tryd.func40, Tryd.ntmps40
 go_wp2
 go_ret
 exact ⟨by first | rfl | (simp; done) | (simp only [← hji3, ← hji5, ← hji6, ← hji8] <;> (first | rfl | simp)) | (simp [*]; done) | exact congrArg Value.bool (nonempty_l _) | (refine congrArg (Value.int _) ?_; first | omega | (unfold Go.RowKit.wrap64; omega)), by repeat (first | exact Drawn0.refl _ | apply Drawn0.step)⟩

end Go.Proofs.YtmnppogihmhdgaaDoor.PP
