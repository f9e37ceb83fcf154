-- WRITTEN BY a program of this work (wip/ownprint.py), for this seat
import Derived.Test.YtnfbagkeenjifaaGreatDoorPPx0
import Derived.Test.YtnfbagkeenjifaaGreatDoorPPx1
namespace Go.Proofs.YtnfbagkeenjifaaGreatDoor.PP
open Go.RowKit Go.Proofs.YtnfbagkeenjifaaGreatDoorW.PrintWords Go.Proofs.YtnfbagkeenjifaaGreatDoorW.PrintLast Go.Proofs.YtnfbagkeenjifaaGreatDoorW.PrintMore
attribute [local go_sem] max2_int min2_int max_two min_two max_three min_three max_four min_four   -- for this text's walks alone
set_option linter.unusedVariables false
set_option linter.unusedSimpArgs false

/-! ### palaverref02_Padded: function 93 (walked by hand) -/
/-- How many zeros. -/
def palaverref02_Padded.zs (n : Nat) : Nat := (64 - (n + 9) % 64) % 64
/-- The length in bits, as eight bytes. -/
def palaverref02_Padded.be (n : Int) (i : Nat) : Int := n / 256 ^ (7 - i) % 256
def palaverref02_Padded.f (k : Nat) (a0 : ByteArray) : Option ByteArray :=
  if a0.size ≤ 140737488355000 then some (strOfNums (((bytesOf a0 ++ [128]) ++ List.replicate (palaverref02_Padded.zs a0.size) 0) ++ (List.range 8).map (palaverref02_Padded.be (8 * (a0.size : Int))))) else none
theorem palaverref02_Padded.mono : ∀ a0 k, LeO (palaverref02_Padded.f k a0) (palaverref02_Padded.f (k + 1) a0) := fun _ _ => LeO.refl _
theorem palaverref02_Padded.test (n : Nat) (hn : n ≤ 140737488355000) (j : Int) (h0 : 0 ≤ j) (h1 : j ≤ (palaverref02_Padded.zs n : Int)) : (j < (palaverref02_Padded.zs n : Int) → ¬ ((n : Int) + 1 + j + 8) % 64 = 0) ∧ (j = (palaverref02_Padded.zs n : Int) → ((n : Int) + 1 + j + 8) % 64 = 0) := by
  unfold palaverref02_Padded.zs at *
  omega
theorem palaverref02_Padded.next {xs pre : List Int} {n : Int} (i : Nat) (c : Int) (h : xs = pre ++ (List.range i).map (palaverref02_Padded.be n)) (hc : c = palaverref02_Padded.be n i := by rfl) : xs ++ [c] = pre ++ (List.range (i + 1)).map (palaverref02_Padded.be n) := by
  rw [List.range_succ, List.map_append, List.map_cons, List.map_nil, ← List.append_assoc, ← hc, ← h]
set_option maxHeartbeats 8000000 in
set_option maxRecDepth 100000 in
theorem palaverref02_Padded.calls (k : Nat) (a0 : ByteArray) (r : ByteArray) (w : World) (h : palaverref02_Padded.f k a0 = some r) :
    Calls Tryz.prog 93 #[.string a0] w fun e w' => e = .returned (.string r) ∧ Below w.heap.size w w' := by
  unfold palaverref02_Padded.f at h
  have hn : a0.size ≤ 140737488355000 := by
    by_cases hh : a0.size ≤ 140737488355000
    · exact hh
    · rw [if_neg hh] at h; cases h
  rw [if_pos hn] at h
  have HRr := Aside0.mk (Option.some.inj h)
  have HN := Aside0.mk hn
  obtain ⟨i0, hi, hz0, hz1, hz2⟩ := info_parts (show (Tryz.prog.info? 5).map (fun i => (i.zero, i.size, i.bytes)) = some (some (.int .u8 0), 1, 1) by kernel_rfl)
  have hu : IntKind.u64.wrap (a0.size : Int) = (a0.size : Int) := by simp only [IntKind.wrap, IntKind.bits, IntKind.signed]; simp; omega
  have hu8 : IntKind.u64.wrap (8 * (a0.size : Int)) = 8 * (a0.size : Int) := by simp only [IntKind.wrap, IntKind.bits, IntKind.signed]; simp; omega
  have hz : palaverref02_Padded.zs a0.size < 64 := by unfold palaverref02_Padded.zs; omega
  clear h hn
  go_enter Tryz.func93, Tryz.ntmps93
  go_wp2
  go_loopg [4] (palaverref02_Padded.zs a0.size) (fun kq v4 w' => ∃ x : Int, v4 = .int .i64 x ∧ Aside0 (0 ≤ x ∧ x + (kq : Int) = (palaverref02_Padded.zs a0.size : Int)) ∧ Aside0 (Below w.heap.size w w'))
  case atStart => exact ⟨0, rfl, ⟨by omega⟩, ⟨Below.refl _ _⟩⟩
  case round =>
    obtain ⟨x, rfl, HP, HB⟩ := hrel
    have hx := HP.out
    have hx0 : 0 ≤ x := hx.1
    have hx1 : x ≤ 63 := by omega
    have hn1 : (a0.size : Int) ≤ 140737488355000 := by have := HN.out; omega
    have ht := palaverref02_Padded.test a0.size HN.out x hx.1 (by omega)
    cases gk with
    | zero =>
      have hc := ht.2 (by omega)
      obtain rfl : x = (palaverref02_Padded.zs a0.size : Int) := by omega
      clear ht hx HP
      go_wp2_with (first | ((with_reducible refine gate_dst (N := 22) rfl ?_); refine convM_event (P := Tryz.prog) rfl (N := 22) rfl 9 39 5 _ rfl a0 rfl w.heap.size (below_size HB.out) Tryz.underlying9 Tryz.underlying39 Tryz.underlying5 (by have := HN.out; omega) ?_; intro v1 w1 hv hb; have HM := Aside0.mk hv; have n0_ := Aside0.mk (below_step HB.out hb); clear HB hv hb; have HB := n0_; clear n0_) | ((with_reducible refine gate_dst (N := 23) rfl ?_); refine Kd.event_run (w1 := w1.alloc (.cells (encs (Value.int .u8) [128]).toArray 5)) (v := .slice (some ⟨w1.heap.size, 0, none⟩) 1 1) ?hg ?hr ?_; (case hg => rfl); (case hr => first | (go_simp; done) | (go_simp; rfl)); have HC := Aside0.mk (lit_cells w1 (128) 5); have hbA := below_alloc (Below.refl w1.heap.size w1) (.cells (encs (Value.int .u8) [128]).toArray 5); have m0_ := Aside0.mk (HM.out.below hbA); have n0_ := Aside0.mk (below_step HB.out hbA); clear HM HB hbA; have HM := m0_; have HB := n0_; clear m0_ n0_; obtain ⟨w2, hw_⟩ : ∃ z_, z_ = w1.alloc (.cells (encs (Value.int .u8) [128]).toArray 5) := ⟨_, rfl⟩; rw [← hw_] at HM HB HC; rw [← hw_]; clear hw_) | ((with_reducible refine gate_dst (N := 24) rfl ?_); refine appendM_event (P := Tryz.prog) (base := w.heap.size) (w0 := w) rfl (N := 24) rfl _ _ 39 39 5 i0 rfl rfl Tryz.underlying39 hi hz0 hz1 hz2 rfl HM.out (below_size HB.out) HB.out ⟨w1.heap.size, 0, none⟩ 1 [128] 1 rfl rfl HC.out (by have := HN.out; simp [bytesOf_length] <;> omega) ?_; intro v3 w3 hv hb; have m0_ := Aside0.mk hv; have n0_ := Aside0.mk hb; clear HM HB HC hv hb; have HM := m0_; have HB := n0_; clear m0_ n0_) | ((with_reducible refine gate_dst (N := 27) rfl ?_); refine appendZ_event (P := Tryz.prog) (base := w.heap.size) (w0 := w) rfl (N := 27) rfl _ _ 39 3 39 5 i0 rfl rfl Tryz.underlying39 Tryz.underlying3 hi hz0 hz1 hz2 rfl HM.out (below_size HB.out) HB.out .i64 (palaverref02_Padded.zs a0.size) rfl (by have := HN.out; simp [bytesOf_length] <;> omega) ?_; intro v4_ w4 hv hb; have m0_ := Aside0.mk hv; have n0_ := Aside0.mk hb; clear HM HB hv hb; have HM := m0_; have HB := n0_; clear m0_ n0_))
      go_loopg [5, 6] 8 (fun kq v5 v6 w' => ∃ (i : Nat) (xs : List Int), v6 = .int .i64 i ∧ Aside0 (i + kq = 8) ∧ Aside0 (xs = ((bytesOf a0 ++ [128]) ++ List.replicate (palaverref02_Padded.zs a0.size) 0) ++ (List.range i).map (palaverref02_Padded.be (8 * (a0.size : Int)))) ∧ Aside0 (OwnM w' w.heap.size 5 v5 xs) ∧ Aside0 (Below w.heap.size w w'))
      case atStart => exact ⟨0, _, rfl, ⟨rfl⟩, ⟨by rw [List.range_zero, List.map_nil, List.append_nil]⟩, ⟨HM.out⟩, ⟨HB.out⟩⟩
      case round =>
        obtain ⟨i, xs, rfl, HP, HX, HM, HB⟩ := hrel
        have hxl : xs.length ≤ 140737488355200 := by have := HN.out; rw [HX.out]; simp [bytesOf_length] <;> (have := HP.out; omega)
        have HXL := Aside0.mk hxl
        clear hxl
        cases gk with
        | zero =>
          obtain rfl : i = 8 := by have := HP.out; omega
          obtain ⟨g, cap, rfl, hg, hC⟩ := HM.out.reads
          have hconv := Kd.C_string (P := Tryz.prog) Tryz.underlying39 Tryz.underlying5 Tryz.underlying9 (c := cap) hC
          go_wp2
          go_ret
          exact ⟨congrArg (fun z_ => Ending.returned (Value.string z_)) ((congrArg strOfNums HX.out).trans HRr.out), HB.out⟩
        | succ k1 =>
          have hi7 : i = 0 ∨ i = 1 ∨ i = 2 ∨ i = 3 ∨ i = 4 ∨ i = 5 ∨ i = 6 ∨ i = 7 := by have := HP.out; omega
          have hk := HP.out
          rcases hi7 with rfl | rfl | rfl | rfl | rfl | rfl | rfl | rfl
          · go_wp2_with (first | ((with_reducible refine gate_dst (N := 42) rfl ?_); refine Kd.event_run (w1 := wr.alloc (.cells (encs (Value.int .u8) [(8 * (a0.size : Int)) / 72057594037927936 % 256]).toArray 5)) (v := .slice (some ⟨wr.heap.size, 0, none⟩) 1 1) ?hg ?hr ?_; (case hg => rfl); (case hr => first | (go_simp; done) | (go_simp; rfl)); have HC := Aside0.mk (lit_cells wr ((8 * (a0.size : Int)) / 72057594037927936 % 256) 5); have hbA := below_alloc (Below.refl wr.heap.size wr) (.cells (encs (Value.int .u8) [(8 * (a0.size : Int)) / 72057594037927936 % 256]).toArray 5); have m0_ := Aside0.mk (HM.out.below hbA); have n0_ := Aside0.mk (below_step HB.out hbA); clear HM HB hbA; have HM := m0_; have HB := n0_; clear m0_ n0_; obtain ⟨w5, hw_⟩ : ∃ z_, z_ = wr.alloc (.cells (encs (Value.int .u8) [(8 * (a0.size : Int)) / 72057594037927936 % 256]).toArray 5) := ⟨_, rfl⟩; rw [← hw_] at HM HB HC; rw [← hw_]; clear hw_) | ((with_reducible refine gate_dst (N := 43) rfl ?_); refine appendM_event (P := Tryz.prog) (base := w.heap.size) (w0 := w) rfl (N := 43) rfl _ _ 39 39 5 i0 rfl rfl Tryz.underlying39 hi hz0 hz1 hz2 rfl HM.out (below_size HB.out) HB.out ⟨wr.heap.size, 0, none⟩ 1 [(8 * (a0.size : Int)) / 72057594037927936 % 256] 1 rfl rfl HC.out (by have := HXL.out; simp <;> omega) ?_; intro v6_ w6 hv hb; have m0_ := Aside0.mk hv; have n0_ := Aside0.mk hb; clear HM HB HC hv hb; have HM := m0_; have HB := n0_; clear m0_ n0_))
            go_roundg k1
            case measure => omega
            case rel => exact ⟨1, _, rfl, ⟨by omega⟩, ⟨palaverref02_Padded.next 0 _ HX.out⟩, ⟨HM.out⟩, ⟨HB.out⟩⟩
          · go_wp2_with (first | ((with_reducible refine gate_dst (N := 42) rfl ?_); refine Kd.event_run (w1 := wr.alloc (.cells (encs (Value.int .u8) [(8 * (a0.size : Int)) / 281474976710656 % 256]).toArray 5)) (v := .slice (some ⟨wr.heap.size, 0, none⟩) 1 1) ?hg ?hr ?_; (case hg => rfl); (case hr => first | (go_simp; done) | (go_simp; rfl)); have HC := Aside0.mk (lit_cells wr ((8 * (a0.size : Int)) / 281474976710656 % 256) 5); have hbA := below_alloc (Below.refl wr.heap.size wr) (.cells (encs (Value.int .u8) [(8 * (a0.size : Int)) / 281474976710656 % 256]).toArray 5); have m0_ := Aside0.mk (HM.out.below hbA); have n0_ := Aside0.mk (below_step HB.out hbA); clear HM HB hbA; have HM := m0_; have HB := n0_; clear m0_ n0_; obtain ⟨w5, hw_⟩ : ∃ z_, z_ = wr.alloc (.cells (encs (Value.int .u8) [(8 * (a0.size : Int)) / 281474976710656 % 256]).toArray 5) := ⟨_, rfl⟩; rw [← hw_] at HM HB HC; rw [← hw_]; clear hw_) | ((with_reducible refine gate_dst (N := 43) rfl ?_); refine appendM_event (P := Tryz.prog) (base := w.heap.size) (w0 := w) rfl (N := 43) rfl _ _ 39 39 5 i0 rfl rfl Tryz.underlying39 hi hz0 hz1 hz2 rfl HM.out (below_size HB.out) HB.out ⟨wr.heap.size, 0, none⟩ 1 [(8 * (a0.size : Int)) / 281474976710656 % 256] 1 rfl rfl HC.out (by have := HXL.out; simp <;> omega) ?_; intro v6_ w6 hv hb; have m0_ := Aside0.mk hv; have n0_ := Aside0.mk hb; clear HM HB HC hv hb; have HM := m0_; have HB := n0_; clear m0_ n0_))
            go_roundg k1
            case measure => omega
            case rel => exact ⟨2, _, rfl, ⟨by omega⟩, ⟨palaverref02_Padded.next 1 _ HX.out⟩, ⟨HM.out⟩, ⟨HB.out⟩⟩
          · go_wp2_with (first | ((with_reducible refine gate_dst (N := 42) rfl ?_); refine Kd.event_run (w1 := wr.alloc (.cells (encs (Value.int .u8) [(8 * (a0.size : Int)) / 1099511627776 % 256]).toArray 5)) (v := .slice (some ⟨wr.heap.size, 0, none⟩) 1 1) ?hg ?hr ?_; (case hg => rfl); (case hr => first | (go_simp; done) | (go_simp; rfl)); have HC := Aside0.mk (lit_cells wr ((8 * (a0.size : Int)) / 1099511627776 % 256) 5); have hbA := below_alloc (Below.refl wr.heap.size wr) (.cells (encs (Value.int .u8) [(8 * (a0.size : Int)) / 1099511627776 % 256]).toArray 5); have m0_ := Aside0.mk (HM.out.below hbA); have n0_ := Aside0.mk (below_step HB.out hbA); clear HM HB hbA; have HM := m0_; have HB := n0_; clear m0_ n0_; obtain ⟨w5, hw_⟩ : ∃ z_, z_ = wr.alloc (.cells (encs (Value.int .u8) [(8 * (a0.size : Int)) / 1099511627776 % 256]).toArray 5) := ⟨_, rfl⟩; rw [← hw_] at HM HB HC; rw [← hw_]; clear hw_) | ((with_reducible refine gate_dst (N := 43) rfl ?_); refine appendM_event (P := Tryz.prog) (base := w.heap.size) (w0 := w) rfl (N := 43) rfl _ _ 39 39 5 i0 rfl rfl Tryz.underlying39 hi hz0 hz1 hz2 rfl HM.out (below_size HB.out) HB.out ⟨wr.heap.size, 0, none⟩ 1 [(8 * (a0.size : Int)) / 1099511627776 % 256] 1 rfl rfl HC.out (by have := HXL.out; simp <;> omega) ?_; intro v6_ w6 hv hb; have m0_ := Aside0.mk hv; have n0_ := Aside0.mk hb; clear HM HB HC hv hb; have HM := m0_; have HB := n0_; clear m0_ n0_))
            go_roundg k1
            case measure => omega
            case rel => exact ⟨3, _, rfl, ⟨by omega⟩, ⟨palaverref02_Padded.next 2 _ HX.out⟩, ⟨HM.out⟩, ⟨HB.out⟩⟩
          · go_wp2_with (first | ((with_reducible refine gate_dst (N := 42) rfl ?_); refine Kd.event_run (w1 := wr.alloc (.cells (encs (Value.int .u8) [(8 * (a0.size : Int)) / 4294967296 % 256]).toArray 5)) (v := .slice (some ⟨wr.heap.size, 0, none⟩) 1 1) ?hg ?hr ?_; (case hg => rfl); (case hr => first | (go_simp; done) | (go_simp; rfl)); have HC := Aside0.mk (lit_cells wr ((8 * (a0.size : Int)) / 4294967296 % 256) 5); have hbA := below_alloc (Below.refl wr.heap.size wr) (.cells (encs (Value.int .u8) [(8 * (a0.size : Int)) / 4294967296 % 256]).toArray 5); have m0_ := Aside0.mk (HM.out.below hbA); have n0_ := Aside0.mk (below_step HB.out hbA); clear HM HB hbA; have HM := m0_; have HB := n0_; clear m0_ n0_; obtain ⟨w5, hw_⟩ : ∃ z_, z_ = wr.alloc (.cells (encs (Value.int .u8) [(8 * (a0.size : Int)) / 4294967296 % 256]).toArray 5) := ⟨_, rfl⟩; rw [← hw_] at HM HB HC; rw [← hw_]; clear hw_) | ((with_reducible refine gate_dst (N := 43) rfl ?_); refine appendM_event (P := Tryz.prog) (base := w.heap.size) (w0 := w) rfl (N := 43) rfl _ _ 39 39 5 i0 rfl rfl Tryz.underlying39 hi hz0 hz1 hz2 rfl HM.out (below_size HB.out) HB.out ⟨wr.heap.size, 0, none⟩ 1 [(8 * (a0.size : Int)) / 4294967296 % 256] 1 rfl rfl HC.out (by have := HXL.out; simp <;> omega) ?_; intro v6_ w6 hv hb; have m0_ := Aside0.mk hv; have n0_ := Aside0.mk hb; clear HM HB HC hv hb; have HM := m0_; have HB := n0_; clear m0_ n0_))
            go_roundg k1
            case measure => omega
            case rel => exact ⟨4, _, rfl, ⟨by omega⟩, ⟨palaverref02_Padded.next 3 _ HX.out⟩, ⟨HM.out⟩, ⟨HB.out⟩⟩
          · go_wp2_with (first | ((with_reducible refine gate_dst (N := 42) rfl ?_); refine Kd.event_run (w1 := wr.alloc (.cells (encs (Value.int .u8) [(8 * (a0.size : Int)) / 16777216 % 256]).toArray 5)) (v := .slice (some ⟨wr.heap.size, 0, none⟩) 1 1) ?hg ?hr ?_; (case hg => rfl); (case hr => first | (go_simp; done) | (go_simp; rfl)); have HC := Aside0.mk (lit_cells wr ((8 * (a0.size : Int)) / 16777216 % 256) 5); have hbA := below_alloc (Below.refl wr.heap.size wr) (.cells (encs (Value.int .u8) [(8 * (a0.size : Int)) / 16777216 % 256]).toArray 5); have m0_ := Aside0.mk (HM.out.below hbA); have n0_ := Aside0.mk (below_step HB.out hbA); clear HM HB hbA; have HM := m0_; have HB := n0_; clear m0_ n0_; obtain ⟨w5, hw_⟩ : ∃ z_, z_ = wr.alloc (.cells (encs (Value.int .u8) [(8 * (a0.size : Int)) / 16777216 % 256]).toArray 5) := ⟨_, rfl⟩; rw [← hw_] at HM HB HC; rw [← hw_]; clear hw_) | ((with_reducible refine gate_dst (N := 43) rfl ?_); refine appendM_event (P := Tryz.prog) (base := w.heap.size) (w0 := w) rfl (N := 43) rfl _ _ 39 39 5 i0 rfl rfl Tryz.underlying39 hi hz0 hz1 hz2 rfl HM.out (below_size HB.out) HB.out ⟨wr.heap.size, 0, none⟩ 1 [(8 * (a0.size : Int)) / 16777216 % 256] 1 rfl rfl HC.out (by have := HXL.out; simp <;> omega) ?_; intro v6_ w6 hv hb; have m0_ := Aside0.mk hv; have n0_ := Aside0.mk hb; clear HM HB HC hv hb; have HM := m0_; have HB := n0_; clear m0_ n0_))
            go_roundg k1
            case measure => omega
            case rel => exact ⟨5, _, rfl, ⟨by omega⟩, ⟨palaverref02_Padded.next 4 _ HX.out⟩, ⟨HM.out⟩, ⟨HB.out⟩⟩
          · go_wp2_with (first | ((with_reducible refine gate_dst (N := 42) rfl ?_); refine Kd.event_run (w1 := wr.alloc (.cells (encs (Value.int .u8) [(8 * (a0.size : Int)) / 65536 % 256]).toArray 5)) (v := .slice (some ⟨wr.heap.size, 0, none⟩) 1 1) ?hg ?hr ?_; (case hg => rfl); (case hr => first | (go_simp; done) | (go_simp; rfl)); have HC := Aside0.mk (lit_cells wr ((8 * (a0.size : Int)) / 65536 % 256) 5); have hbA := below_alloc (Below.refl wr.heap.size wr) (.cells (encs (Value.int .u8) [(8 * (a0.size : Int)) / 65536 % 256]).toArray 5); have m0_ := Aside0.mk (HM.out.below hbA); have n0_ := Aside0.mk (below_step HB.out hbA); clear HM HB hbA; have HM := m0_; have HB := n0_; clear m0_ n0_; obtain ⟨w5, hw_⟩ : ∃ z_, z_ = wr.alloc (.cells (encs (Value.int .u8) [(8 * (a0.size : Int)) / 65536 % 256]).toArray 5) := ⟨_, rfl⟩; rw [← hw_] at HM HB HC; rw [← hw_]; clear hw_) | ((with_reducible refine gate_dst (N := 43) rfl ?_); refine appendM_event (P := Tryz.prog) (base := w.heap.size) (w0 := w) rfl (N := 43) rfl _ _ 39 39 5 i0 rfl rfl Tryz.underlying39 hi hz0 hz1 hz2 rfl HM.out (below_size HB.out) HB.out ⟨wr.heap.size, 0, none⟩ 1 [(8 * (a0.size : Int)) / 65536 % 256] 1 rfl rfl HC.out (by have := HXL.out; simp <;> omega) ?_; intro v6_ w6 hv hb; have m0_ := Aside0.mk hv; have n0_ := Aside0.mk hb; clear HM HB HC hv hb; have HM := m0_; have HB := n0_; clear m0_ n0_))
            go_roundg k1
            case measure => omega
            case rel => exact ⟨6, _, rfl, ⟨by omega⟩, ⟨palaverref02_Padded.next 5 _ HX.out⟩, ⟨HM.out⟩, ⟨HB.out⟩⟩
          · go_wp2_with (first | ((with_reducible refine gate_dst (N := 42) rfl ?_); refine Kd.event_run (w1 := wr.alloc (.cells (encs (Value.int .u8) [(8 * (a0.size : Int)) / 256 % 256]).toArray 5)) (v := .slice (some ⟨wr.heap.size, 0, none⟩) 1 1) ?hg ?hr ?_; (case hg => rfl); (case hr => first | (go_simp; done) | (go_simp; rfl)); have HC := Aside0.mk (lit_cells wr ((8 * (a0.size : Int)) / 256 % 256) 5); have hbA := below_alloc (Below.refl wr.heap.size wr) (.cells (encs (Value.int .u8) [(8 * (a0.size : Int)) / 256 % 256]).toArray 5); have m0_ := Aside0.mk (HM.out.below hbA); have n0_ := Aside0.mk (below_step HB.out hbA); clear HM HB hbA; have HM := m0_; have HB := n0_; clear m0_ n0_; obtain ⟨w5, hw_⟩ : ∃ z_, z_ = wr.alloc (.cells (encs (Value.int .u8) [(8 * (a0.size : Int)) / 256 % 256]).toArray 5) := ⟨_, rfl⟩; rw [← hw_] at HM HB HC; rw [← hw_]; clear hw_) | ((with_reducible refine gate_dst (N := 43) rfl ?_); refine appendM_event (P := Tryz.prog) (base := w.heap.size) (w0 := w) rfl (N := 43) rfl _ _ 39 39 5 i0 rfl rfl Tryz.underlying39 hi hz0 hz1 hz2 rfl HM.out (below_size HB.out) HB.out ⟨wr.heap.size, 0, none⟩ 1 [(8 * (a0.size : Int)) / 256 % 256] 1 rfl rfl HC.out (by have := HXL.out; simp <;> omega) ?_; intro v6_ w6 hv hb; have m0_ := Aside0.mk hv; have n0_ := Aside0.mk hb; clear HM HB HC hv hb; have HM := m0_; have HB := n0_; clear m0_ n0_))
            go_roundg k1
            case measure => omega
            case rel => exact ⟨7, _, rfl, ⟨by omega⟩, ⟨palaverref02_Padded.next 6 _ HX.out⟩, ⟨HM.out⟩, ⟨HB.out⟩⟩
          · go_wp2_with (first | ((with_reducible refine gate_dst (N := 42) rfl ?_); refine Kd.event_run (w1 := wr.alloc (.cells (encs (Value.int .u8) [(8 * (a0.size : Int)) / 1 % 256]).toArray 5)) (v := .slice (some ⟨wr.heap.size, 0, none⟩) 1 1) ?hg ?hr ?_; (case hg => rfl); (case hr => first | (go_simp; done) | (go_simp; rfl)); have HC := Aside0.mk (lit_cells wr ((8 * (a0.size : Int)) / 1 % 256) 5); have hbA := below_alloc (Below.refl wr.heap.size wr) (.cells (encs (Value.int .u8) [(8 * (a0.size : Int)) / 1 % 256]).toArray 5); have m0_ := Aside0.mk (HM.out.below hbA); have n0_ := Aside0.mk (below_step HB.out hbA); clear HM HB hbA; have HM := m0_; have HB := n0_; clear m0_ n0_; obtain ⟨w5, hw_⟩ : ∃ z_, z_ = wr.alloc (.cells (encs (Value.int .u8) [(8 * (a0.size : Int)) / 1 % 256]).toArray 5) := ⟨_, rfl⟩; rw [← hw_] at HM HB HC; rw [← hw_]; clear hw_) | ((with_reducible refine gate_dst (N := 43) rfl ?_); refine appendM_event (P := Tryz.prog) (base := w.heap.size) (w0 := w) rfl (N := 43) rfl _ _ 39 39 5 i0 rfl rfl Tryz.underlying39 hi hz0 hz1 hz2 rfl HM.out (below_size HB.out) HB.out ⟨wr.heap.size, 0, none⟩ 1 [(8 * (a0.size : Int)) / 1 % 256] 1 rfl rfl HC.out (by have := HXL.out; simp <;> omega) ?_; intro v6_ w6 hv hb; have m0_ := Aside0.mk hv; have n0_ := Aside0.mk hb; clear HM HB HC hv hb; have HM := m0_; have HB := n0_; clear m0_ n0_))
            go_roundg k1
            case measure => omega
            case rel => exact ⟨8, _, rfl, ⟨by omega⟩, ⟨palaverref02_Padded.next 7 _ HX.out⟩, ⟨HM.out⟩, ⟨HB.out⟩⟩
    | succ k1 =>
      have hc : (((a0.size : Int) + 1 + x + 8) % 64 != 0) = true := bne_iff_ne.mpr (ht.1 (by omega))
      clear ht hx
      go_wp2
      go_roundg k1
      case measure => omega
      case rel => exact ⟨x + 1, rfl, ⟨by have := HP.out; omega⟩, ⟨HB.out⟩⟩

/-! ### palaverref02_turn: function 94 -/
def palaverref02_turn.f (a0 : Int) (a1 : Int) : Option (Int) := if 0 ≤ a1 then (some (Go.bits .or .u32 (shr .u32 a0 a1) (shl .u32 a0 ((32 - a1) % 4294967296)))) else (none)
set_option maxHeartbeats 64000000 in
set_option maxRecDepth 100000 in
theorem palaverref02_turn.calls (a0 : Int) (a1 : Int) (r : Int) (w : World) (h : palaverref02_turn.f a0 a1 = some r) :
 Calls Tryz.prog 94 #[.int .u32 a0, .int .u32 a1] w fun e w' => e = .returned (.int .u32 r) ∧ Drawn0 w w' := by
 have H : (if 0 ≤ a1 then (some (Go.bits .or .u32 (shr .u32 a0 a1) (shl .u32 a0 ((32 - a1) % 4294967296)))) else (none)) = some r := h
 clear h
 revert H; refine ne_ fun c3 c3b0 c3b1 H => ?_
 clear c3
 generalize hji4 : (shr .u32 a0 a1) = ji4 at H
 have hji4_ : (a0 / 2 ^ min a1.toNat 32) = ji4 := hji4
 have hji4z : a1 ≤ 32 → (a0 / 2 ^ a1.toNat) = ji4 := shr_small hji4
 generalize hji5 : (shl .u32 a0 ((32 - a1) % 4294967296)) = ji5 at H
 have hji5_ : (IntKind.u32.wrap (a0 * 2 ^ min ((32 - a1) % 4294967296).toNat 32)) = ji5 := hji5
 have hji5z : ((32 - a1) % 4294967296) ≤ 32 → (IntKind.u32.wrap (a0 * 2 ^ ((32 - a1) % 4294967296).toNat)) = ji5 := shl_small hji5
 (have hji5n : (0 ≤ ((32 - a1) % 4294967296)) = True := eq_true (by omega))
 obtain rfl := Option.some.inj H
 go_enter Tryz.func94, Tryz.ntmps94
 go_wp2
 go_ret
 exact ⟨by first | rfl | (simp; done) | (simp only [← hji4, ← hji5] <;> (first | rfl | simp)) | (simp [*]; done) | exact congrArg Value.bool (nonempty_l _) | (refine congrArg (Value.int _) ?_; first | omega | (unfold wrap64; omega)), by repeat (first | exact Drawn0.refl _ | apply Drawn0.step)⟩

/-! ### palaverref02_Sum: function 54 -/
mutual
def palaverref02_Sum.l0 : Nat → List Int → List Int → ByteArray → Int → Option (ByteArray)
 | 0, _, _, _, _ => none
 | k + 1, x3, x4, x5, x6 => if x6 < (x5.size : Int) then (palaverref02_Sum.l1 k x3 x4 x5 x6 (List.replicate 64 0) 0) else (palaverref02_Sum.l4 k x3 ([] : List Int) 0)
def palaverref02_Sum.l1 : Nat → List Int → List Int → ByteArray → Int → List Int → Int → Option (ByteArray)
 | 0, _, _, _, _, _, _ => none
 | k + 1, x3, x4, x5, x6, x7, x8 => if x8 < 64 then (if x8 < 16 then (if 0 ≤ (wrap64 (x6 + (wrap64 (4 * x8)))) then (if (wrap64 (x6 + (wrap64 (4 * x8)))) < (x5.size : Int) then (if 0 ≤ (wrap64 ((wrap64 (x6 + (wrap64 (4 * x8)))) + 1)) then (if (wrap64 ((wrap64 (x6 + (wrap64 (4 * x8)))) + 1)) < (x5.size : Int) then (if 0 ≤ (wrap64 ((wrap64 (x6 + (wrap64 (4 * x8)))) + 2)) then (if (wrap64 ((wrap64 (x6 + (wrap64 (4 * x8)))) + 2)) < (x5.size : Int) then (if 0 ≤ (wrap64 ((wrap64 (x6 + (wrap64 (4 * x8)))) + 3)) then (if (wrap64 ((wrap64 (x6 + (wrap64 (4 * x8)))) + 3)) < (x5.size : Int) then (if x7.length = 64 then (if 0 ≤ x8 then (if x8 < (x7.length : Int) then (palaverref02_Sum.l1 k x3 x4 x5 x6 (x7.set (x8 : Int).toNat (((((((bt x5 (wrap64 (x6 + (wrap64 (4 * x8))))) % 4294967296) * 16777216) + (((bt x5 (wrap64 ((wrap64 (x6 + (wrap64 (4 * x8)))) + 1))) % 4294967296) * 65536)) + (((bt x5 (wrap64 ((wrap64 (x6 + (wrap64 (4 * x8)))) + 2))) % 4294967296) * 256)) + (bt x5 (wrap64 ((wrap64 (x6 + (wrap64 (4 * x8)))) + 3)))) % 4294967296)) (wrap64 (x8 + 1))) else (none)) else (none)) else (none)) else (none)) else (none)) else (none)) else (none)) else (none)) else (none)) else (none)) else (none)) else (if x7.length = 64 then (if 0 ≤ (wrap64 (x8 - 15)) then (if (wrap64 (x8 - 15)) < (x7.length : Int) then ((palaverref02_turn.f (rd x7 (wrap64 (x8 - 15))) 7).bind fun t247 => ((palaverref02_turn.f (rd x7 (wrap64 (x8 - 15))) 18).bind fun t249 => (if 0 ≤ (wrap64 (x8 - 2)) then (if (wrap64 (x8 - 2)) < (x7.length : Int) then ((palaverref02_turn.f (rd x7 (wrap64 (x8 - 2))) 17).bind fun t252 => ((palaverref02_turn.f (rd x7 (wrap64 (x8 - 2))) 19).bind fun t254 => (if 0 ≤ (wrap64 (x8 - 16)) then (if (wrap64 (x8 - 16)) < (x7.length : Int) then (if 0 ≤ (wrap64 (x8 - 7)) then (if (wrap64 (x8 - 7)) < (x7.length : Int) then (if 0 ≤ x8 then (if x8 < (x7.length : Int) then (palaverref02_Sum.l1 k x3 x4 x5 x6 (x7.set (x8 : Int).toNat (((((rd x7 (wrap64 (x8 - 16))) + (Go.bits .xor .u32 (Go.bits .xor .u32 t247 t249) ((rd x7 (wrap64 (x8 - 15))) / 8))) + (rd x7 (wrap64 (x8 - 7)))) + (Go.bits .xor .u32 (Go.bits .xor .u32 t252 t254) ((rd x7 (wrap64 (x8 - 2))) / 1024))) % 4294967296)) (wrap64 (x8 + 1))) else (none)) else (none)) else (none)) else (none)) else (none)) else (none)))) else (none)) else (none)))) else (none)) else (none)) else (none))) else (if x3.length = 8 then (if 0 < (x3.length : Int) then (if 1 < (x3.length : Int) then (if 2 < (x3.length : Int) then (if 3 < (x3.length : Int) then (if 4 < (x3.length : Int) then (if 5 < (x3.length : Int) then (if 6 < (x3.length : Int) then (if 7 < (x3.length : Int) then (palaverref02_Sum.l2 k x3 x4 x5 x6 x7 (rd x3 0) (rd x3 1) (rd x3 2) (rd x3 3) (rd x3 4) (rd x3 5) (rd x3 6) (rd x3 7) 0) else (none)) else (none)) else (none)) else (none)) else (none)) else (none)) else (none)) else (none)) else (none))
def palaverref02_Sum.l2 : Nat → List Int → List Int → ByteArray → Int → List Int → Int → Int → Int → Int → Int → Int → Int → Int → Int → Option (ByteArray)
 | 0, _, _, _, _, _, _, _, _, _, _, _, _, _, _ => none
 | k + 1, x3, x4, x5, x6, x7, x11, x12, x13, x14, x15, x16, x17, x18, x19 => if x19 < 64 then ((palaverref02_turn.f x15 6).bind fun t267 => ((palaverref02_turn.f x15 11).bind fun t268 => ((palaverref02_turn.f x15 25).bind fun t269 => (if x4.length = 64 then (if 0 ≤ x19 then (if x19 < (x4.length : Int) then (if x7.length = 64 then (if x19 < (x7.length : Int) then ((palaverref02_turn.f x11 2).bind fun t272 => ((palaverref02_turn.f x11 13).bind fun t273 => ((palaverref02_turn.f x11 22).bind fun t274 => (palaverref02_Sum.l2 k x3 x4 x5 x6 x7 ((((((x18 + (Go.bits .xor .u32 (Go.bits .xor .u32 t267 t268) t269)) + (Go.bits .xor .u32 (Go.bits .and .u32 x15 x16) (Go.bits .and .u32 (Go.bits .xor .u32 4294967295 x15) x17))) + (rd x4 x19)) + (rd x7 x19)) + ((Go.bits .xor .u32 (Go.bits .xor .u32 t272 t273) t274) + (Go.bits .xor .u32 (Go.bits .xor .u32 (Go.bits .and .u32 x11 x12) (Go.bits .and .u32 x11 x13)) (Go.bits .and .u32 x12 x13)))) % 4294967296) x11 x12 x13 ((x14 + ((((x18 + (Go.bits .xor .u32 (Go.bits .xor .u32 t267 t268) t269)) + (Go.bits .xor .u32 (Go.bits .and .u32 x15 x16) (Go.bits .and .u32 (Go.bits .xor .u32 4294967295 x15) x17))) + (rd x4 x19)) + (rd x7 x19))) % 4294967296) x15 x16 x17 (wrap64 (x19 + 1)))))) else (none)) else (none)) else (none)) else (none)) else (none))))) else ((some (List.replicate 8 0 : List Int)).bind fun y275 => (if y275.length = 8 then (if 0 < (y275.length : Int) then (palaverref02_Sum.l3 k x3 x4 x5 x6 ([x11, x12, x13, x14, x15, x16, x17, x18]) 0) else (none)) else (none)))
def palaverref02_Sum.l3 : Nat → List Int → List Int → ByteArray → Int → List Int → Int → Option (ByteArray)
 | 0, _, _, _, _, _, _ => none
 | k + 1, x3, x4, x5, x6, x26, x27 => if x27 < 8 then (if x3.length = 8 then (if 0 ≤ x27 then (if x27 < (x3.length : Int) then (if x26.length = 8 then (if x27 < (x26.length : Int) then (palaverref02_Sum.l3 k (x3.set (x27 : Int).toNat (((rd x3 x27) + (rd x26 x27)) % 4294967296)) x4 x5 x6 x26 (wrap64 (x27 + 1))) else (none)) else (none)) else (none)) else (none)) else (none)) else (palaverref02_Sum.l0 k x3 x4 x5 (wrap64 (x6 + 64)))
def palaverref02_Sum.l4 : Nat → List Int → List Int → Int → Option (ByteArray)
 | 0, _, _, _ => none
 | k + 1, x3, x28, x29 => if x29 < 8 then (if x3.length = 8 then (if 0 ≤ x29 then (if x29 < (x3.length : Int) then ((some (([((rd x3 x29) / 16777216) % 256, ((rd x3 x29) / 65536) % 256, ((rd x3 x29) / 256) % 256, (rd x3 x29) % 256] : List Int) : List Int)).bind fun y286 => (if x28.length + y286.length < 140737488355328 then (palaverref02_Sum.l4 k x3 (x28 ++ y286) (wrap64 (x29 + 1))) else (none))) else (none)) else (none)) else (none)) else (some (strOfNums x28))
end
def palaverref02_Sum.f (k : Nat) (a0 : ByteArray) : Option (ByteArray) := (palaverref02_Starts.f).bind fun _ => ((some (List.replicate 8 0 : List Int)).bind fun y233 => (if y233.length = 8 then (if 0 < (y233.length : Int) then ((palaverref02_table.f).bind fun _ => ((some (List.replicate 64 0 : List Int)).bind fun y237 => (if y237.length = 64 then (if 0 < (y237.length : Int) then ((palaverref02_Padded.f k a0).bind fun t241 => (palaverref02_Sum.l0 k ([1779033703, 3144134277, 1013904242, 2773480762, 1359893119, 2600822924, 528734635, 1541459225]) ([1116352408, 1899447441, 3049323471, 3921009573, 961987163, 1508970993, 2453635748, 2870763221, 3624381080, 310598401, 607225278, 1426881987, 1925078388, 2162078206, 2614888103, 3248222580, 3835390401, 4022224774, 264347078, 604807628, 770255983, 1249150122, 1555081692, 1996064986, 2554220882, 2821834349, 2952996808, 3210313671, 3336571891, 3584528711, 113926993, 338241895, 666307205, 773529912, 1294757372, 1396182291, 1695183700, 1986661051, 2177026350, 2456956037, 2730485921, 2820302411, 3259730800, 3345764771, 3516065817, 3600352804, 4094571909, 275423344, 430227734, 506948616, 659060556, 883997877, 958139571, 1322822218, 1537002063, 1747873779, 1955562222, 2024104815, 2227730452, 2361852424, 2428436474, 2756734187, 3204031479, 3329325298]) t241 0)) else (none)) else (none)))) else (none)) else (none)))
theorem palaverref02_Sum.mono_l : ∀ k, (∀ y0 y1 y2 y3, LeO (palaverref02_Sum.l0 k y0 y1 y2 y3) (palaverref02_Sum.l0 (k + 1) y0 y1 y2 y3)) ∧ (∀ y0 y1 y2 y3 y4 y5, LeO (palaverref02_Sum.l1 k y0 y1 y2 y3 y4 y5) (palaverref02_Sum.l1 (k + 1) y0 y1 y2 y3 y4 y5)) ∧ (∀ y0 y1 y2 y3 y4 y5 y6 y7 y8 y9 y10 y11 y12 y13, LeO (palaverref02_Sum.l2 k y0 y1 y2 y3 y4 y5 y6 y7 y8 y9 y10 y11 y12 y13) (palaverref02_Sum.l2 (k + 1) y0 y1 y2 y3 y4 y5 y6 y7 y8 y9 y10 y11 y12 y13)) ∧ (∀ y0 y1 y2 y3 y4 y5, LeO (palaverref02_Sum.l3 k y0 y1 y2 y3 y4 y5) (palaverref02_Sum.l3 (k + 1) y0 y1 y2 y3 y4 y5)) ∧ (∀ y0 y1 y2, LeO (palaverref02_Sum.l4 k y0 y1 y2) (palaverref02_Sum.l4 (k + 1) y0 y1 y2))
 | 0 => ⟨fun _ _ _ _ r h => by simp [palaverref02_Sum.l0] at h, fun _ _ _ _ _ _ r h => by simp [palaverref02_Sum.l1] at h, fun _ _ _ _ _ _ _ _ _ _ _ _ _ _ r h => by simp [palaverref02_Sum.l2] at h, fun _ _ _ _ _ _ r h => by simp [palaverref02_Sum.l3] at h, fun _ _ _ r h => by simp [palaverref02_Sum.l4] at h⟩
 | k + 1 => by
  obtain ⟨ih0, ih1, ih2, ih3, ih4⟩ := palaverref02_Sum.mono_l k
  refine ⟨?_, ?_, ?_, ?_, ?_⟩ <;> intros <;> (first | unfold palaverref02_Sum.l0 | unfold palaverref02_Sum.l1 | unfold palaverref02_Sum.l2 | unfold palaverref02_Sum.l3 | unfold palaverref02_Sum.l4) <;> repeat' first
  | (with_reducible exact ih0 _ _ _ _)
  | (with_reducible exact ih1 _ _ _ _ _ _)
  | (with_reducible exact ih2 _ _ _ _ _ _ _ _ _ _ _ _ _ _)
  | (with_reducible exact ih3 _ _ _ _ _ _)
  | (with_reducible exact ih4 _ _ _)
  | (with_reducible exact palaverref02_Padded.mono _ _)
  | (with_reducible exact LeO.refl _)
  | (with_reducible exact LeO.none _)
  | (with_reducible refine LeO.ite ?_ ?_)
  | (with_reducible refine LeO.bind ?_ (fun _ => ?_))
  | exact ih0 _ _ _ _
  | exact ih1 _ _ _ _ _ _
  | exact ih2 _ _ _ _ _ _ _ _ _ _ _ _ _ _
  | exact ih3 _ _ _ _ _ _
  | exact ih4 _ _ _
  | exact palaverref02_Padded.mono _ _
  | exact LeO.none _
  | refine LeO.ite ?_ ?_
  | refine LeO.bind ?_ (fun _ => ?_)
theorem palaverref02_Sum.mono : ∀ a0 k, LeO (palaverref02_Sum.f k a0) (palaverref02_Sum.f (k + 1) a0) := by
 intro a0 k
 obtain ⟨ih0, ih1, ih2, ih3, ih4⟩ := palaverref02_Sum.mono_l k
 unfold palaverref02_Sum.f
 repeat' first
  | (with_reducible exact ih0 _ _ _ _)
  | (with_reducible exact ih1 _ _ _ _ _ _)
  | (with_reducible exact ih2 _ _ _ _ _ _ _ _ _ _ _ _ _ _)
  | (with_reducible exact ih3 _ _ _ _ _ _)
  | (with_reducible exact ih4 _ _ _)
  | (with_reducible exact palaverref02_Padded.mono _ _)
  | (with_reducible exact LeO.refl _)
  | (with_reducible exact LeO.none _)
  | (with_reducible refine LeO.ite ?_ ?_)
  | (with_reducible refine LeO.bind ?_ (fun _ => ?_))
  | exact ih0 _ _ _ _
  | exact ih1 _ _ _ _ _ _
  | exact ih2 _ _ _ _ _ _ _ _ _ _ _ _ _ _
  | exact ih3 _ _ _ _ _ _
  | exact ih4 _ _ _
  | exact palaverref02_Padded.mono _ _
  | exact LeO.none _
  | refine LeO.ite ?_ ?_
  | refine LeO.bind ?_ (fun _ => ?_)
def palaverref02_Sum.T12 : Bool × List (List Nat × List Nat) := (true, [([], []), ([], []), ([], []), ([], []), ([3], [3]), ([2, 4], [2, 4]), ([1, 5], [1, 5]), ([6], [6]), ([7], [7]), ([], []), ([], []), ([], []), ([11], [11]), ([10, 12], [10, 12]), ([13], [13]), ([9, 14], [9, 14]), ([15], [15]), ([16], [16]), ([8, 17], [8, 17]), ([], []), ([], []), ([], []), ([21], [21]), ([20, 22], [20, 22]), ([23], [23]), ([19, 24], [19, 24]), ([25], [25]), ([26], [26]), ([18, 27], [18, 27]), ([], []), ([], []), ([], []), ([31], [31]), ([30, 32], [30, 32]), ([33], [33]), ([29, 34], [29, 34]), ([35], [35]), ([28, 36], [28, 36]), ([0, 0, 1, 2, 3, 4, 5, 6, 7, 8, 9, 10, 11, 12, 13, 14, 15, 16, 17, 18, 19, 20, 21, 22, 23, 24, 25, 26, 27, 28, 29, 30, 31, 32, 33, 34, 35, 36, 37], [0]), ([38, 37, 0, 1, 2, 3, 4, 5, 6, 7, 8, 9, 10, 11, 12, 13, 14, 15, 16, 17, 18, 19, 20, 21, 22, 23, 24, 25, 26, 27, 28, 29, 30, 31, 32, 33, 34, 35, 36, 37], [37, 38])])
def palaverref02_Sum.B12 : List Nat := [0, 0, 0, 0, 8, 28, 62, 126, 254, 0, 0, 0, 2048, 7168, 15360, 32256, 65024, 130560, 262142, 0, 0, 0, 2097152, 7340032, 15728640, 33030144, 66584576, 133693440, 268435454, 0, 0, 0, 2147483648, 7516192768, 16106127360, 33822867456, 68182605824, 137438953470, 274877906943, 549755813887]
theorem palaverref02_Sum.tab12 : rtab .any (opsOf Tryz.f54 12) = palaverref02_Sum.T12 := by kernel_rfl
theorem palaverref02_Sum.bits12 : waitsOk palaverref02_Sum.T12.2 palaverref02_Sum.B12 = true := by kernel_rfl
def palaverref02_Sum.T13 : Bool × List (List Nat × List Nat) := (true, [([], []), ([0], [0]), ([1], [1]), ([2], [2]), ([3], [3]), ([], []), ([5], [5]), ([6], [6]), ([7], [7]), ([8, 4], [8]), ([4, 9], [4, 9]), ([], []), ([11], [11]), ([12], [12]), ([13], [13]), ([14], [14]), ([10, 15], [10, 15]), ([16, 9, 0, 1, 2, 3, 4, 5, 6, 7, 8, 9, 10, 11, 12, 13, 14, 15, 16], [16])])
def palaverref02_Sum.B13 : List Nat := [0, 1, 3, 7, 15, 0, 32, 96, 224, 511, 1023, 0, 2048, 6144, 14336, 30720, 65535, 131071]
theorem palaverref02_Sum.tab13 : rtab .any (opsOf Tryz.f54 13) = palaverref02_Sum.T13 := by kernel_rfl
theorem palaverref02_Sum.bits13 : waitsOk palaverref02_Sum.T13.2 palaverref02_Sum.B13 = true := by kernel_rfl
def palaverref02_Sum.T14 : Bool × List (List Nat × List Nat) := (true, [([], []), ([0], [0]), ([1], [1]), ([2], [2]), ([3], [3]), ([], []), ([5], [5]), ([6], [6]), ([7], [7]), ([8, 4], [8]), ([4, 9], [4, 9]), ([], []), ([11], [11]), ([12], [12]), ([13], [13]), ([14], [14]), ([10, 15], [10, 15]), ([16, 9, 0, 1, 2, 3, 4, 5, 6, 7, 8, 9, 10, 11, 12, 13, 14, 15, 16], [16])])
def palaverref02_Sum.B14 : List Nat := [0, 1, 3, 7, 15, 0, 32, 96, 224, 511, 1023, 0, 2048, 6144, 14336, 30720, 65535, 131071]
theorem palaverref02_Sum.tab14 : rtab .any (opsOf Tryz.f54 14) = palaverref02_Sum.T14 := by kernel_rfl
theorem palaverref02_Sum.bits14 : waitsOk palaverref02_Sum.T14.2 palaverref02_Sum.B14 = true := by kernel_rfl
def palaverref02_Sum.T15 : Bool × List (List Nat × List Nat) := (true, [([], []), ([], []), ([1], [1]), ([2], [2]), ([3], [3]), ([], []), ([4, 5], [4, 5]), ([], []), ([7], [7]), ([8], [8]), ([9], [9]), ([6, 10], [6, 10]), ([], []), ([11, 12], [11, 12]), ([0, 0, 1, 2, 3, 4, 5, 6, 7, 8, 9, 10, 11, 12, 13], [0]), ([14, 13, 0, 1, 2, 3, 4, 5, 6, 7, 8, 9, 10, 11, 12, 13], [13, 14])])
def palaverref02_Sum.B15 : List Nat := [0, 0, 2, 6, 14, 0, 62, 0, 128, 384, 896, 2046, 0, 8190, 16383, 32767]
theorem palaverref02_Sum.tab15 : rtab .any (opsOf Tryz.f54 15) = palaverref02_Sum.T15 := by kernel_rfl
theorem palaverref02_Sum.bits15 : waitsOk palaverref02_Sum.T15.2 palaverref02_Sum.B15 = true := by kernel_rfl
def palaverref02_Sum.T16 : Bool × List (List Nat × List Nat) := (true, [([], []), ([0], [0]), ([], []), ([2], [2]), ([], []), ([4], [4]), ([], []), ([6], [6]), ([], []), ([8], [8]), ([], []), ([10], [10]), ([], []), ([12], [12]), ([], []), ([14], [14]), ([1, 0, 1], [1]), ([3, 16, 0, 1, 2, 3, 16], [3]), ([5, 17, 0, 1, 2, 3, 4, 5, 16, 17], [5]), ([7, 18, 0, 1, 2, 3, 4, 5, 6, 7, 16, 17, 18], [7]), ([9, 19, 0, 1, 2, 3, 4, 5, 6, 7, 8, 9, 16, 17, 18, 19], [9]), ([11, 20, 0, 1, 2, 3, 4, 5, 6, 7, 8, 9, 10, 11, 16, 17, 18, 19, 20], [11]), ([13, 21, 0, 1, 2, 3, 4, 5, 6, 7, 8, 9, 10, 11, 12, 13, 16, 17, 18, 19, 20, 21], [13]), ([15, 22, 0, 1, 2, 3, 4, 5, 6, 7, 8, 9, 10, 11, 12, 13, 14, 15, 16, 17, 18, 19, 20, 21, 22], [15])])
def palaverref02_Sum.B16 : List Nat := [0, 1, 0, 4, 0, 16, 0, 64, 0, 256, 0, 1024, 0, 4096, 0, 16384, 3, 65551, 196671, 459007, 984063, 2035711, 4145151, 8388607]
theorem palaverref02_Sum.tab16 : rtab .any (opsOf Tryz.f54 16) = palaverref02_Sum.T16 := by kernel_rfl
theorem palaverref02_Sum.bits16 : waitsOk palaverref02_Sum.T16.2 palaverref02_Sum.B16 = true := by kernel_rfl
def palaverref02_Sum.T22 : Bool × List (List Nat × List Nat) := (true, [([], []), ([], []), ([0, 1], [0, 1]), ([], []), ([2, 3], [2, 3]), ([], []), ([5], [5]), ([6], [6]), ([4, 7], [4, 7]), ([], []), ([9], [9]), ([10], [10]), ([8, 11], [8, 11]), ([12, 0, 1, 2, 3, 4, 5, 6, 7, 8, 9, 10, 11, 12], [12])])
def palaverref02_Sum.B22 : List Nat := [0, 0, 3, 0, 15, 0, 32, 96, 255, 0, 512, 1536, 4095, 8191]
theorem palaverref02_Sum.tab22 : rtab .any (opsOf Tryz.f54 22) = palaverref02_Sum.T22 := by kernel_rfl
theorem palaverref02_Sum.bits22 : waitsOk palaverref02_Sum.T22.2 palaverref02_Sum.B22 = true := by kernel_rfl
def palaverref02_Sum.T38 : Bool × List (List Nat × List Nat) := (true, [([], []), ([], []), ([1], [1]), ([2], [2]), ([], []), ([4], [4]), ([5], [5]), ([3, 6], [3, 6]), ([0, 0, 1, 2, 3, 4, 5, 6, 7], [0]), ([8, 7, 0, 1, 2, 3, 4, 5, 6, 7], [7, 8])])
def palaverref02_Sum.B38 : List Nat := [0, 0, 2, 6, 0, 16, 48, 126, 255, 511]
theorem palaverref02_Sum.tab38 : rtab .any (opsOf Tryz.f54 38) = palaverref02_Sum.T38 := by kernel_rfl
theorem palaverref02_Sum.bits38 : waitsOk palaverref02_Sum.T38.2 palaverref02_Sum.B38 = true := by kernel_rfl
def palaverref02_Sum.T43 : Bool × List (List Nat × List Nat) := (true, [([], []), ([], []), ([1], [1]), ([2], [2]), ([3], [3]), ([4], [4]), ([], []), ([6], [6]), ([7], [7]), ([8], [8]), ([9], [9]), ([], []), ([11], [11]), ([12], [12]), ([13], [13]), ([14], [14]), ([], []), ([16], [16]), ([17], [17]), ([18], [18]), ([5, 10, 15, 19], [5, 10, 15, 19]), ([0, 20], [0, 20]), ([21, 21, 0, 1, 2, 3, 4, 5, 6, 7, 8, 9, 10, 11, 12, 13, 14, 15, 16, 17, 18, 19, 20, 21], [0, 21])])
def palaverref02_Sum.B43 : List Nat := [0, 0, 2, 6, 14, 30, 0, 64, 192, 448, 960, 0, 2048, 6144, 14336, 30720, 0, 65536, 196608, 458752, 1048574, 2097151, 4194303]
theorem palaverref02_Sum.tab43 : rtab .any (opsOf Tryz.f54 43) = palaverref02_Sum.T43 := by kernel_rfl
theorem palaverref02_Sum.bits43 : waitsOk palaverref02_Sum.T43.2 palaverref02_Sum.B43 = true := by kernel_rfl
set_option maxHeartbeats 64000000 in
set_option maxRecDepth 100000 in
theorem palaverref02_Sum.calls (k : Nat) (a0 : ByteArray) (r : ByteArray) (w : World) (h : palaverref02_Sum.f k a0 = some r) :
 Calls Tryz.prog 54 #[.string a0] w fun e w' => e = .returned (.string r) ∧ Below w.heap.size w w' := by
 have hu130 := Tryz.underlying130
 have hu132 := Tryz.underlying132
 have HB := Aside0.mk (Below.refl w.heap.size w)
 have H : ((palaverref02_Starts.f).bind fun _ => ((some (List.replicate 8 0 : List Int)).bind fun y233 => (if y233.length = 8 then (if 0 < (y233.length : Int) then ((palaverref02_table.f).bind fun _ => ((some (List.replicate 64 0 : List Int)).bind fun y237 => (if y237.length = 64 then (if 0 < (y237.length : Int) then ((palaverref02_Padded.f k a0).bind fun t241 => (palaverref02_Sum.l0 k ([1779033703, 3144134277, 1013904242, 2773480762, 1359893119, 2600822924, 528734635, 1541459225]) ([1116352408, 1899447441, 3049323471, 3921009573, 961987163, 1508970993, 2453635748, 2870763221, 3624381080, 310598401, 607225278, 1426881987, 1925078388, 2162078206, 2614888103, 3248222580, 3835390401, 4022224774, 264347078, 604807628, 770255983, 1249150122, 1555081692, 1996064986, 2554220882, 2821834349, 2952996808, 3210313671, 3336571891, 3584528711, 113926993, 338241895, 666307205, 773529912, 1294757372, 1396182291, 1695183700, 1986661051, 2177026350, 2456956037, 2730485921, 2820302411, 3259730800, 3345764771, 3516065817, 3600352804, 4094571909, 275423344, 430227734, 506948616, 659060556, 883997877, 958139571, 1322822218, 1537002063, 1747873779, 1955562222, 2024104815, 2227730452, 2361852424, 2428436474, 2756734187, 3204031479, 3329325298]) t241 0)) else (none)) else (none)))) else (none)) else (none)))) = some r := h
 clear h
 revert H; refine oa_ fun _ A2 => oy_ fun y233 Ny233 => ne_ fun c3 c3b0 c3b1 => nd_ fun c4 c4b0 H => ?_
 have c4b1 : decide (0 < y233.length) = true := decide_eq_true (by omega)
 clear c3 c4
 generalize e_ : ([1779033703, 3144134277, 1013904242, 2773480762, 1359893119, 2600822924, 528734635, 1541459225] : List Int) = y236 at H
 have Ny236 := Aside0.mk e_.symm
 clear e_
 revert H; refine oa_ fun _ A6 => oy_ fun y237 Ny237 => ne_ fun c7 c7b0 c7b1 => nd_ fun c8 c8b0 H => ?_
 have c8b1 : decide (0 < y237.length) = true := decide_eq_true (by omega)
 clear c7 c8
 generalize e_ : ([1116352408, 1899447441, 3049323471, 3921009573, 961987163, 1508970993, 2453635748, 2870763221, 3624381080, 310598401, 607225278, 1426881987, 1925078388, 2162078206, 2614888103, 3248222580, 3835390401, 4022224774, 264347078, 604807628, 770255983, 1249150122, 1555081692, 1996064986, 2554220882, 2821834349, 2952996808, 3210313671, 3336571891, 3584528711, 113926993, 338241895, 666307205, 773529912, 1294757372, 1396182291, 1695183700, 1986661051, 2177026350, 2456956037, 2730485921, 2820302411, 3259730800, 3345764771, 3516065817, 3600352804, 4094571909, 275423344, 430227734, 506948616, 659060556, 883997877, 958139571, 1322822218, 1537002063, 1747873779, 1955562222, 2024104815, 2227730452, 2361852424, 2428436474, 2756734187, 3204031479, 3329325298] : List Int) = y240 at H
 have Ny240 := Aside0.mk e_.symm
 clear e_
 revert H; refine oa_ fun t241 A10 H => ?_
 have H' := Aside0.mk H
 clear H
 go_enter Tryz.func54, Tryz.ntmps54
 go_wp2_with (first | ((with_reducible refine gate_callee (f := 91) rfl ?_); refine gL_ 30 Tryz.func91 #[] ?_; (with_reducible refine (palaverref02_Starts.calls   _ A2.out).mono ?_); rintro e w11 ⟨rfl, hb⟩; refine ⟨_, rfl, ?_⟩; replace HB := Aside0.mk (below_step bl_ hb); (try clear hb); (try clear hb2); (try clear hk); (try clear hi)) | ((with_reducible refine gate_dst (N := 3) rfl ?_); refine R_arr (Value.int .u32) (fun _ => rfl) _ 130 ?hg (N := 3) ?hd (List.replicate 8 0) ?hr (Below.refl _ _) (Nat.le_refl _) (by decide) ?_; (case hd => rfl); (case hg => rfl); (case hr => exact gr_); intro v234 w12 ho13 hb hg_ hnew_; clear hg_ hnew_; (first | rw [← Ny233.out] at ho13 | (simp only [Int.reduceToNat] at ho13; rw [← Ny233.out] at ho13)); have HO235 := Aside0.mk (Kd.R_lower ho13 (below_size bl_)); replace HB := Aside0.mk (below_step bl_ hb); clear hb ho13; have qa5 : ((0 : Int) < (8 : Int)) = True := eq_true (by have e_ : y233.length = 8 := ad_; have h_ : (0 : Int) < ((y233.length : Int) : Int) := ad_; omega); have p5 : 0 ≤ (0 : Int) := (by omega); have q5 : (0 : Int) < ((y233.length : Int) : Int) := ad_; have qi5 : (0 < y233.length) = True := eq_true (by omega); obtain ⟨go5, co5, eo5, gb5, gl5, cl5, HG5⟩ := Kd.R_form HO235.out (by omega); (first | cases eo5 | (injection eo5 with ea_ en_ ec_; (first | subst ea_ | (injection ea_ with ea_; subst ea_)); subst ec_; clear en_)); have GB5 := Aside0.mk gb5; have GG5 := Aside0.mk HG5; clear gb5 gl5 HG5; obtain ⟨hx5_0, hf5_0⟩ := Kd.R_celln 0 HO235.out (0 : Int) p5 q5; (try rw [show ((0 : Int)).toNat = 0 from rfl] at hx5_0); (try simp only [Nat.reduceMul, Nat.zero_mul, Nat.zero_add, Nat.reduceAdd] at hx5_0); (try rw [show ((0 : Int)).toNat = 0 from rfl] at hf5_0); (try simp only [Nat.reduceMul, Nat.zero_mul, Nat.zero_add, Nat.reduceAdd] at hf5_0); replace p5 := eq_true p5; replace q5 := eq_true q5; have HP14 := R_whole (ys := [1779033703, 3144134277, 1013904242, 2773480762, 1359893119, 2600822924, 528734635, 1541459225]) HO235.out (by have e_ : y233.length = 8 := ad_; have e2_ := (Kd.R_reads' HO235.out).1; first | (rw [e_]; rfl) | (simp only [List.length_cons, List.length_nil]; omega))) | ((with_reducible refine gate_store (t := 130) (p := 3) rfl ?_); refine store_event (t := 130) (p := 3) (v := ?vo_w15) (w1 := (w12.setCells go5 0 (encs (Value.int .u32) [1779033703, 3144134277, 1013904242, 2773480762, 1359893119, 2600822924, 528734635, 1541459225]))) ?hg ?ho ?hn ?hr ?_; (case ho => rfl); (case hg => rfl); (case hn => rfl); (case hr => exact whole_run (ys := [1779033703, 3144134277, 1013904242, 2773480762, 1359893119, 2600822924, 528734635, 1541459225]) rfl rfl rfl (by kernel_rfl) HO235.out (by have e_ : y233.length = 8 := ad_; have e2_ := (Kd.R_reads' HO235.out).1; first | (rw [e_]; rfl) | (simp only [List.length_cons, List.length_nil]; omega))); intro w15 hw; have hg : w12.grownBy w15 (some go5) := (by rw [hw]; exact HP14.2); have hp_ : Kd.R (Kd.int .u32) 130 w15 w.heap.size (fun _ => True) (.slice (some ⟨go5, 0, none⟩) y233.length co5) y236 := (by rw [hw, Ny236.out]; exact HP14.1); clear HP14; replace HB := Aside0.mk ((Below.grown HB.out hg (below_size HB.out) (fun k_ e_ => (Option.some.inj e_) ▸ GB5.out) : Below w.heap.size w w15)); replace HO235 := Aside0.mk (hp_); clear hg hw hp_) | ((with_reducible refine gate_callee (f := 92) rfl ?_); refine gL_ 31 Tryz.func92 #[] ?_; (with_reducible refine (palaverref02_table.calls   _ A6.out).mono ?_); rintro e w16 ⟨rfl, hb⟩; refine ⟨_, rfl, ?_⟩; replace HB := Aside0.mk (below_step bl_ hb); replace HO235 := Aside0.mk (Kd.R_below (mv_ HO235.out) hb); (try clear hb); (try clear hb2); (try clear hk); (try clear hi)) | ((with_reducible refine gate_dst (N := 4) rfl ?_); refine R_arr (Value.int .u32) (fun _ => rfl) _ 132 ?hg (N := 4) ?hd (List.replicate 64 0) ?hr (Below.refl _ _) (Nat.le_refl _) (by decide) ?_; (case hd => rfl); (case hg => rfl); (case hr => exact gr_); intro v238 w17 ho18 hb hg_ hnew_; clear hg_ hnew_; (first | rw [← Ny237.out] at ho18 | (simp only [Int.reduceToNat] at ho18; rw [← Ny237.out] at ho18)); have HO239 := Aside0.mk (Kd.R_lower ho18 (below_size bl_)); replace HB := Aside0.mk (below_step bl_ hb); replace HO235 := Aside0.mk (Kd.R_below (mv_ HO235.out) hb); clear hb ho18; have qa9 : ((0 : Int) < (64 : Int)) = True := qa_ y237 64; have p9 : 0 ≤ (0 : Int) := (by omega); have q9 : (0 : Int) < ((y237.length : Int) : Int) := ad_; have qi9 : (0 < y237.length) = True := eq_true (by omega); obtain ⟨go9, co9, eo9, gb9, gl9, cl9, HG9⟩ := Kd.R_form HO239.out (by omega); (first | cases eo9 | (injection eo9 with ea_ en_ ec_; (first | subst ea_ | (injection ea_ with ea_; subst ea_)); subst ec_; clear en_)); have GB9 := Aside0.mk gb9; have GG9 := Aside0.mk HG9; clear gb9 gl9 HG9; obtain ⟨hx9_0, hf9_0⟩ := Kd.R_celln 0 HO239.out (0 : Int) p9 q9; (try rw [show ((0 : Int)).toNat = 0 from rfl] at hx9_0); (try simp only [Nat.reduceMul, Nat.zero_mul, Nat.zero_add, Nat.reduceAdd] at hx9_0); (try rw [show ((0 : Int)).toNat = 0 from rfl] at hf9_0); (try simp only [Nat.reduceMul, Nat.zero_mul, Nat.zero_add, Nat.reduceAdd] at hf9_0); replace p9 := eq_true p9; replace q9 := eq_true q9; have HP19 := R_whole (ys := [1116352408, 1899447441, 3049323471, 3921009573, 961987163, 1508970993, 2453635748, 2870763221, 3624381080, 310598401, 607225278, 1426881987, 1925078388, 2162078206, 2614888103, 3248222580, 3835390401, 4022224774, 264347078, 604807628, 770255983, 1249150122, 1555081692, 1996064986, 2554220882, 2821834349, 2952996808, 3210313671, 3336571891, 3584528711, 113926993, 338241895, 666307205, 773529912, 1294757372, 1396182291, 1695183700, 1986661051, 2177026350, 2456956037, 2730485921, 2820302411, 3259730800, 3345764771, 3516065817, 3600352804, 4094571909, 275423344, 430227734, 506948616, 659060556, 883997877, 958139571, 1322822218, 1537002063, 1747873779, 1955562222, 2024104815, 2227730452, 2361852424, 2428436474, 2756734187, 3204031479, 3329325298]) HO239.out (by have e_ : y237.length = 64 := ad_; have e2_ := (Kd.R_reads' HO239.out).1; first | (rw [e_]; rfl) | (simp only [List.length_cons, List.length_nil]; omega))) | ((with_reducible refine gate_store (t := 132) (p := 4) rfl ?_); refine store_event (t := 132) (p := 4) (v := ?vo_w20) (w1 := (w17.setCells go9 0 (encs (Value.int .u32) [1116352408, 1899447441, 3049323471, 3921009573, 961987163, 1508970993, 2453635748, 2870763221, 3624381080, 310598401, 607225278, 1426881987, 1925078388, 2162078206, 2614888103, 3248222580, 3835390401, 4022224774, 264347078, 604807628, 770255983, 1249150122, 1555081692, 1996064986, 2554220882, 2821834349, 2952996808, 3210313671, 3336571891, 3584528711, 113926993, 338241895, 666307205, 773529912, 1294757372, 1396182291, 1695183700, 1986661051, 2177026350, 2456956037, 2730485921, 2820302411, 3259730800, 3345764771, 3516065817, 3600352804, 4094571909, 275423344, 430227734, 506948616, 659060556, 883997877, 958139571, 1322822218, 1537002063, 1747873779, 1955562222, 2024104815, 2227730452, 2361852424, 2428436474, 2756734187, 3204031479, 3329325298]))) ?hg ?ho ?hn ?hr ?_; (case ho => rfl); (case hg => rfl); (case hn => rfl); (case hr => exact whole_run (ys := [1116352408, 1899447441, 3049323471, 3921009573, 961987163, 1508970993, 2453635748, 2870763221, 3624381080, 310598401, 607225278, 1426881987, 1925078388, 2162078206, 2614888103, 3248222580, 3835390401, 4022224774, 264347078, 604807628, 770255983, 1249150122, 1555081692, 1996064986, 2554220882, 2821834349, 2952996808, 3210313671, 3336571891, 3584528711, 113926993, 338241895, 666307205, 773529912, 1294757372, 1396182291, 1695183700, 1986661051, 2177026350, 2456956037, 2730485921, 2820302411, 3259730800, 3345764771, 3516065817, 3600352804, 4094571909, 275423344, 430227734, 506948616, 659060556, 883997877, 958139571, 1322822218, 1537002063, 1747873779, 1955562222, 2024104815, 2227730452, 2361852424, 2428436474, 2756734187, 3204031479, 3329325298]) rfl rfl rfl (by kernel_rfl) HO239.out (by have e_ : y237.length = 64 := ad_; have e2_ := (Kd.R_reads' HO239.out).1; first | (rw [e_]; rfl) | (simp only [List.length_cons, List.length_nil]; omega))); intro w20 hw; have hg : w17.grownBy w20 (some go9) := (by rw [hw]; exact HP19.2); have hp_ : Kd.R (Kd.int .u32) 132 w20 w.heap.size (fun _ => True) (.slice (some ⟨go9, 0, none⟩) y237.length co9) y240 := (by rw [hw, Ny240.out]; exact HP19.1); clear HP19; replace HB := Aside0.mk ((Below.grown HB.out hg (below_size HB.out) (fun k_ e_ => (Option.some.inj e_) ▸ GB9.out) : Below w.heap.size w w20)); replace HO235 := Aside0.mk (Kd.R_over' (v := (.slice (some ⟨go9, 0, none⟩) y237.length co9)) (mv_ HO235.out) (Kd.R_typed HO239.out) (by decide) hg); replace HO239 := Aside0.mk (hp_); clear hg hw hp_) | ((with_reducible refine gate_callee (f := 93) rfl ?_); refine gL_ 33 Tryz.func93 #[.string a0] ?_; (with_reducible refine (palaverref02_Padded.calls k a0 t241 _ A10.out).mono ?_); rintro e w21 ⟨rfl, hb⟩; refine ⟨_, rfl, ?_⟩; replace HB := Aside0.mk (below_step bl_ hb); replace HO239 := Aside0.mk (Kd.R_below (mv_ HO239.out) hb); replace HO235 := Aside0.mk (Kd.R_below (mv_ HO235.out) hb); (try clear hb); (try clear hb2); (try clear hk); (try clear hi)))
 go_loopg [6] k (fun kq v6 w' => ∃ (x3_1 : List Int) (x4_1 : List Int) (x6_1 : Int), v6 = .int .i64 x6_1 ∧ Aside0 (palaverref02_Sum.l0 kq x3_1 x4_1 t241 x6_1 = some r) ∧ Aside0 (kq ≤ k) ∧ Aside0 (Kd.R (Kd.int .u32) 130 w' w.heap.size (fun _ => True) (.slice (some ⟨go5, 0, none⟩) y233.length co5) x3_1) ∧ Aside0 (Kd.R (Kd.int .u32) 132 w' w.heap.size (fun _ => True) (.slice (some ⟨go9, 0, none⟩) y237.length co9) x4_1) ∧ Aside0 (Below w.heap.size w w'))
 case atStart => exact ⟨(y236), (y240), (0), vq_, H', ⟨Nat.le_refl _⟩, ⟨mv_ HO235.out⟩, ⟨mv_ HO239.out⟩, ⟨bl_⟩⟩
 case round =>
  clear H'
  (try clear p2); (try clear c3); (try clear c3b0); (try clear c3b1); (try clear c4); (try clear c4b0); (try clear c4b1); (try clear c5); (try clear p5); (try clear q5); (try clear hx5); (try clear qi5); (try clear hf5); (try clear p6); (try clear c7); (try clear c7b0); (try clear c7b1); (try clear c8); (try clear c8b0); (try clear c8b1); (try clear c9); (try clear p9); (try clear q9); (try clear hx9); (try clear qi9); (try clear hf9); (try clear hx5_0); (try clear hx9_0); (try clear p5); (try clear p9); (try clear q5); (try clear q9)
  obtain ⟨x3_1, x4_1, x6_1, rfl, HA, HK1, HO_3, HO_4, HB⟩ := hrel
  have hl3_1 := (Kd.R_reads' HO_3.out).1
  rw [hl3_1] at HO_3
  (try simp only [hl3_1])
  (try simp only [hl3_1] at HO_4)
  have hl4_1 := (Kd.R_reads' HO_4.out).1
  rw [hl4_1] at HO_4
  (try simp only [hl4_1])
  (try simp only [hl4_1] at HO_3)
  cases gk with
  | zero => exact absurd HA.out (by simp [palaverref02_Sum.l0])
  | succ k1 =>
   have H := HA.out
   clear HA
   simp only [palaverref02_Sum.l0] at H
   by_cases c22 : x6_1 < (t241.size : Int)
   ·refine Nonempty.elim ?gc22p id
    letI i_ : type_of% ?gc22p := ⟨by
    rw [if_pos c22] at H
    have c22b0 : decide (x6_1 < (t241.size : Int)) = true := decide_eq_true c22
    (try (have c22b7 := c22b0; simp only [hl3_1, hl4_1] at c22b7))
    clear c22
    generalize e_ : (List.replicate 64 0 : List Int) = y242 at H
    have Ny242 := Aside0.mk e_.symm
    clear e_
    have H' := Aside0.mk H
    clear H
    go_wp2_with (first | ((with_reducible refine gate_dst (N := 7) rfl ?_); refine R_arr (Value.int .u32) (fun _ => rfl) _ 132 ?hg (N := 7) ?hd (List.replicate 64 0) ?hr (Below.refl _ _) (Nat.le_refl _) (by decide) ?_; (case hd => rfl); (case hg => rfl); (case hr => exact gr_); intro v243 w23 ho24 hb hg_ hnew_; clear hg_ hnew_; (first | rw [← Ny242.out] at ho24 | (simp only [Int.reduceToNat] at ho24; rw [← Ny242.out] at ho24)); have HO244 := Aside0.mk (Kd.R_lower (Kd.R_new' ho24 (Kd.R_lt (mv_ HO_4.out))) (below_size bl_)); replace HB := Aside0.mk (below_step bl_ hb); replace HO_4 := Aside0.mk (Kd.R_elder' (mv_ HO_4.out) (Kd.R_base ho24) hb); replace HO_3 := Aside0.mk (Kd.R_below (mv_ HO_3.out) hb); clear hb ho24))
    go_loopg [8] k1 (fun kq v8 w' => ∃ (x7_2 : List Int) (x8_2 : Int), v8 = .int .i64 x8_2 ∧ Aside0 (palaverref02_Sum.l1 kq x3_1 x4_1 t241 x6_1 x7_2 x8_2 = some r) ∧ Aside0 (kq ≤ k1) ∧ Aside0 (Kd.R (Kd.int .u32) 130 w' w.heap.size (fun _ => True) (.slice (some ⟨go5, 0, none⟩) x3_1.length co5) x3_1) ∧ Aside0 (Kd.R (Kd.int .u32) 132 w' w.heap.size (fun k_ => some k_ ≠ (v243 : Value).ownBlock) (.slice (some ⟨go9, 0, none⟩) x4_1.length co9) x4_1) ∧ Aside0 (Kd.R (Kd.int .u32) 132 w' w.heap.size (fun k_ => some k_ ≠ ((.slice (some ⟨go9, 0, none⟩) x4_1.length co9) : Value).ownBlock) v243 x7_2) ∧ Aside0 (Below w.heap.size w w'))
    case atStart => exact ⟨(y242), (0), vq_, H', ⟨Nat.le_refl _⟩, ⟨by (try simp only [hl3_1]); (try simp only [hl4_1]); refine mv_ ?_; exact HO_3.out⟩, ⟨by (try simp only [hl3_1]); (try simp only [hl4_1]); refine mv_ ?_; exact Kd.R_mono HO_4.out (fun _ hk => hk.2)⟩, ⟨by (try simp only [hl3_1]); (try simp only [hl4_1]); refine mv_ ?_; exact Kd.R_mono HO244.out (fun _ hk => hk.2)⟩, ⟨bl_⟩⟩
    case round =>
     clear H'
     (try clear c2); (try clear p2); (try clear c3); (try clear c3b0); (try clear c3b1); (try clear c4); (try clear c4b0); (try clear c4b1); (try clear c5); (try clear p5); (try clear q5); (try clear hx5); (try clear qi5); (try clear hf5); (try clear p6); (try clear c7); (try clear c7b0); (try clear c7b1); (try clear c8); (try clear c8b0); (try clear c8b1); (try clear c9); (try clear p9); (try clear q9); (try clear hx9); (try clear qi9); (try clear hf9); (try clear c22); (try clear c22b0); (try clear c22b7); (try clear hx5_0); (try clear hx9_0); (try clear p2); (try clear p5); (try clear p6); (try clear p9); (try clear q5); (try clear q9)
     obtain ⟨x7_2, x8_2, rfl, HA, HK2, HO_3, HO_4, HO_7, HB⟩ := hrel
     cases gk with
     | zero => exact absurd HA.out (by simp [palaverref02_Sum.l1])
     | succ k2 =>
      have H := HA.out
      clear HA
      simp only [palaverref02_Sum.l1] at H
      by_cases c25 : x8_2 < 64
      ·refine Nonempty.elim ?gc25p id
       letI i_ : type_of% ?gc25p := ⟨by
       rw [if_pos c25] at H
       have c25b0 : decide (x8_2 < 64) = true := decide_eq_true c25
       (try (have c25b7 := c25b0; simp only [hl3_1, hl4_1] at c25b7))
       clear c25
       by_cases c26 : x8_2 < 16
       ·refine Nonempty.elim ?gc26p id
        letI i_ : type_of% ?gc26p := ⟨by
        rw [if_pos c26] at H
        have c26b0 : decide (x8_2 < 16) = true := decide_eq_true c26
        (try (have c26b7 := c26b0; simp only [hl3_1, hl4_1] at c26b7))
        clear c26
        generalize hji27 : (wrap64 (x6_1 + (wrap64 (4 * x8_2)))) = ji27 at H
        have hji27w := (i64_w _).trans hji27
        by_cases c28 : 0 ≤ (ji27)
        ·rw [if_pos c28] at H
         have c28b0 : decide (0 ≤ (ji27)) = true := decide_eq_true c28
         (try (have c28b7 := c28b0; simp only [hl3_1, hl4_1] at c28b7))
         clear c28
         revert H; refine nd_ fun c29 c29b0 H => ?_
         (try (have c29b7 := c29b0; simp only [hl3_1, hl4_1] at c29b7))
         clear c29
         generalize hji31 : (wrap64 ((ji27) + 1)) = ji31 at H
         have hji31w := (i64_w _).trans hji31
         revert H; refine nd_ fun c32 c32b0 => nd_ fun c33 c33b0 H => ?_
         (try (have c32b7 := c32b0; simp only [hl3_1, hl4_1] at c32b7))
         (try (have c33b7 := c33b0; simp only [hl3_1, hl4_1] at c33b7))
         clear c32 c33
         generalize hji35 : (wrap64 ((ji27) + 2)) = ji35 at H
         have hji35w := (i64_w _).trans hji35
         revert H; refine nd_ fun c36 c36b0 => nd_ fun c37 c37b0 H => ?_
         (try (have c36b7 := c36b0; simp only [hl3_1, hl4_1] at c36b7))
         (try (have c37b7 := c37b0; simp only [hl3_1, hl4_1] at c37b7))
         clear c36 c37
         generalize hji39 : (wrap64 ((ji27) + 3)) = ji39 at H
         have hji39w := (i64_w _).trans hji39
         revert H; refine nd_ fun c40 c40b0 => nd_ fun c41 c41b0 => ne_ fun c43 c43b0 c43b1 => nd_ fun c44 c44b0 => nd_ fun c45 c45b0 H => ?_
         (try (have c40b7 := c40b0; simp only [hl3_1, hl4_1] at c40b7))
         (try (have c41b7 := c41b0; simp only [hl3_1, hl4_1] at c41b7))
         (try (have c44b7 := c44b0; simp only [hl3_1, hl4_1] at c44b7))
         (try (have c45b7 := c45b0; simp only [hl3_1, hl4_1] at c45b7))
         clear c40 c41 c43 c44 c45
         generalize e_ : (x7_2.set (x8_2 : Int).toNat (((((((bt t241 (ji27)) % 4294967296) * 16777216) + (((bt t241 (ji31)) % 4294967296) * 65536)) + (((bt t241 (ji35)) % 4294967296) * 256)) + (bt t241 (ji39))) % 4294967296) : List Int) = y245 at H
         have Ny245 := Aside0.mk e_.symm
         clear e_
         have H' := Aside0.mk H
         clear H
         try go_wp2
         replace HB := Aside0.mk (below_drew1 HB.out)
         replace HO_7 := Aside0.mk (Kd.R_drew HO_7.out)
         replace HO_4 := Aside0.mk (Kd.R_drew HO_4.out)
         replace HO_3 := Aside0.mk (Kd.R_drew HO_3.out)
         have p30 := eq_true (ad_ : 0 ≤ ((ji27) : Int))
         have q30 := eq_true (ad_ : (ji27) < (t241.size : Int))
         have hx30 := bt_at t241 (ji27)
         have p34 := eq_true (ad_ : 0 ≤ ((ji31) : Int))
         have q34 := eq_true (ad_ : (ji31) < (t241.size : Int))
         have hx34 := bt_at t241 (ji31)
         have p38 := eq_true (ad_ : 0 ≤ ((ji35) : Int))
         have q38 := eq_true (ad_ : (ji35) < (t241.size : Int))
         have hx38 := bt_at t241 (ji35)
         have p42 := eq_true (ad_ : 0 ≤ ((ji39) : Int))
         have q42 := eq_true (ad_ : (ji39) < (t241.size : Int))
         have hx42 := bt_at t241 (ji39)
         have qa46 : ((x8_2 : Int) < (64 : Int)) = True := qa_ x7_2 64
         have p46 : 0 ≤ (x8_2 : Int) := ad_
         have q46 : (x8_2 : Int) < ((x7_2.length : Int) : Int) := ad_
         obtain ⟨go46, co46, eo46, gb46, gl46, cl46, HG46⟩ := Kd.R_form HO_7.out (by omega)
         (first | cases eo46 | (injection eo46 with ea_ en_ ec_; (first | subst ea_ | (injection ea_ with ea_; subst ea_)); subst ec_; clear en_))
         have GB46 := Aside0.mk gb46
         have GG46 := Aside0.mk HG46
         clear gb46 gl46 HG46
         obtain ⟨hx46_0, hf46_0⟩ := Kd.R_celln 0 HO_7.out (x8_2 : Int) p46 q46
         replace p46 := eq_true p46
         replace q46 := eq_true q46
         have HP48 := Kd.R_putn HO_7.out (x8_2 : Int) (((((((bt t241 (ji27)) % 4294967296) * 16777216) + (((bt t241 (ji31)) % 4294967296) * 65536)) + (((bt t241 (ji35)) % 4294967296) * 256)) + (bt t241 (ji39))) % 4294967296)
         rw [← Ny245.out] at HP48
         have HQ48 := Aside0.mk HP48
         clear HP48
         refine start_ (n := 40) (S := fun w' => True) (ds := [39]) #[false, false, false, false, false, false, false, false, false, false, false, false, false, false, false, false, false, false, false, false, false, false, false, false, false, false, false, false, false, false, false, false, false, false, false, false, false, false, false, false] (by kernel_rfl) rfl rfl trivial (fun hHeld => ?_); refine with_tabW palaverref02_Sum.tab12 palaverref02_Sum.bits12 (fun HT_ HW_ => ?_)
         generalize wr.drew = w47 at HO_3 HO_4 HO_7 HB GG46 HQ48 hf46_0 hx46_0 hHeld ⊢
         refine runs_ [(0, some 46), (1, some 47), (2, some 48), (3, some 49), (4, some 50), (5, some 51), (9, some 55), (10, some 56), (11, some 57), (12, some 58), (13, some 59), (14, some 60), (19, some 65), (20, some 66), (21, some 67), (22, some 68), (23, some 69), (24, some 70), (29, some 75), (30, some 76), (31, some 77), (32, some 78), (33, some 79), (34, some 80)] ?_
         iterate 24 (refine pL_ ?_)
         refine runsE_ ?_
         refine take_ (i := 6) (N := some 52) (v := ?_) (a' := ?_) #[true, true, true, true, true, true, true, false, false, true, true, true, true, true, true, false, false, false, false, true, true, true, true, true, true, false, false, false, false, true, true, true, true, true, true, false, false, false, false, false] rfl rfl (take_ofW HT_.out HW_.out (by kernel_rfl)) (fun _ _ _ h => h) (Or.inl ⟨by rfl, ?_⟩) hHeld ?_ ?_
         rotate_left
         ·intro w' _
          go_simp
          with_reducible rfl
         rotate_left
         ·simp only [pr_]
          rfl
         refine runs_ [(7, some 53), (8, some 54)] ?_
         iterate 2 (refine pL_ ?_)
         refine runsE_ ?_
         refine take_ (i := 15) (N := some 61) (v := ?_) (a' := ?_) #[true, true, true, true, true, true, true, true, true, true, true, true, true, true, true, true, false, false, false, true, true, true, true, true, true, false, false, false, false, true, true, true, true, true, true, false, false, false, false, false] rfl rfl (take_ofW HT_.out HW_.out (by kernel_rfl)) (fun _ _ _ h => h) (Or.inl ⟨by rfl, ?_⟩) hHeld ?_ ?_
         rotate_left
         ·intro w' _
          go_simp
          with_reducible rfl
         rotate_left
         ·simp only [pr_]
          rfl
         refine runs_ [(16, some 62), (17, some 63), (18, some 64)] ?_
         iterate 3 (refine pL_ ?_)
         refine runsE_ ?_
         refine take_ (i := 25) (N := some 71) (v := ?_) (a' := ?_) #[true, true, true, true, true, true, true, true, true, true, true, true, true, true, true, true, true, true, true, true, true, true, true, true, true, true, false, false, false, true, true, true, true, true, true, false, false, false, false, false] rfl rfl (take_ofW HT_.out HW_.out (by kernel_rfl)) (fun _ _ _ h => h) (Or.inl ⟨by rfl, ?_⟩) hHeld ?_ ?_
         rotate_left
         ·intro w' _
          go_simp
          with_reducible rfl
         rotate_left
         ·simp only [pr_]
          rfl
         refine runs_ [(26, some 72), (27, some 73), (28, some 74)] ?_
         iterate 3 (refine pL_ ?_)
         refine runsE_ ?_
         refine take_ (i := 35) (N := some 81) (v := ?_) (a' := ?_) #[true, true, true, true, true, true, true, true, true, true, true, true, true, true, true, true, true, true, true, true, true, true, true, true, true, true, true, true, true, true, true, true, true, true, true, true, false, false, false, false] rfl rfl (take_ofW HT_.out HW_.out (by kernel_rfl)) (fun _ _ _ h => h) (Or.inl ⟨by rfl, ?_⟩) hHeld ?_ ?_
         rotate_left
         ·intro w' _
          go_simp
          with_reducible rfl
         rotate_left
         ·simp only [pr_]
          rfl
         refine runs_ [(36, some 82), (37, some 83), (38, some 84)] ?_
         iterate 3 (refine pL_ ?_)
         refine runsE_ ?_
         refine last_ (i := 39) (N := none) #[true, true, true, true, true, true, true, true, true, true, true, true, true, true, true, true, true, true, true, true, true, true, true, true, true, true, true, true, true, true, true, true, true, true, true, true, true, true, true, true] rfl rfl (one_of HT_.out (by kernel_rfl)) (by decide) (fun K hK => ?_)
         refine skip_set ⟨go46, (x8_2 : Int).toNat, none⟩ (.int .u32 (((((((bt t241 (ji27)) % 4294967296) * 16777216) + (((bt t241 (ji31)) % 4294967296) * 65536)) + (((bt t241 (ji35)) % 4294967296) * 256)) + (bt t241 (ji39))) % 4294967296)) (by rfl) rfl ?_ ?_
         ·first | (go_simp; done) | (go_simp; rfl) | (go_simp; (try simp only [IntKind.wrap_u32, IntKind.wrap_u8]); refine congrArg (fun v_ => World.setCell _ _ (Value.int _ v_)) ?_; omega)
         refine hK.out _ _ ?_
         clear hK K
         refine done_ (done_of HT_.out (by kernel_rfl)) ?_
         try go_wp2
         go_roundg k2
         case measure => have := HK1.out; have := HK2.out; omega
         case rel => exact ⟨(y245), (wrap64 (x8_2 + 1)), vq_, H', ⟨by have := HK1.out; have := HK2.out; omega⟩, ⟨by (try simp only [hl3_1]); (try simp only [hl4_1]); refine mv_ ?_; exact Kd.R_mono (Kd.R_far (p := ⟨go46, (x8_2 : Int).toNat, none⟩) (Kd.R_types HO_3.out GG46.out (by decide)) (fun _ hk => hk.2) (.int .u32 (((((((bt t241 (ji27)) % 4294967296) * 16777216) + (((bt t241 (ji31)) % 4294967296) * 65536)) + (((bt t241 (ji35)) % 4294967296) * 256)) + (bt t241 (ji39))) % 4294967296))) (fun _ hk => trivial)⟩, ⟨by (try simp only [hl3_1]); (try simp only [hl4_1]); refine mv_ ?_; exact Kd.R_mono (Kd.R_far (p := ⟨go46, (x8_2 : Int).toNat, none⟩) (Kd.R_mono HO_4.out (fun k_ hk => (⟨hk, fun e_ => hk (by rw [e_]; rfl)⟩ : _ ∧ k_ ≠ go46))) (fun _ hk => hk.2) (.int .u32 (((((((bt t241 (ji27)) % 4294967296) * 16777216) + (((bt t241 (ji31)) % 4294967296) * 65536)) + (((bt t241 (ji35)) % 4294967296) * 256)) + (bt t241 (ji39))) % 4294967296))) (fun _ hk => hk.1)⟩, ⟨by (try simp only [hl3_1]); (try simp only [hl4_1]); refine mv_ ?_; exact HQ48.out⟩, ⟨bs_ GB46.out⟩⟩
        ·rw [if_neg c28] at H
         exact absurd H (by simp)
        ⟩
        exact inferInstanceAs _
       ·refine Nonempty.elim ?gc26n id
        letI i_ : type_of% ?gc26n := ⟨by
        rw [if_neg c26] at H
        have c26b0 : decide (x8_2 < 16) = false := decide_eq_false c26
        (try (have c26b7 := c26b0; simp only [hl3_1, hl4_1] at c26b7))
        clear c26
        by_cases c49 : x7_2.length = 64
        ·rw [if_pos c49] at H
         have c49b0 := eq_true c49
         have c49b1 : decide (x7_2.length = 64) = true := decide_eq_true c49
         clear c49
         generalize hji50 : (wrap64 (x8_2 - 15)) = ji50 at H
         have hji50w := (i64_w _).trans hji50
         revert H; refine nd_ fun c51 c51b0 => nd_ fun c52 c52b0 => oa_ fun t247 A53 => oa_ fun t249 A54 H => ?_
         (try (have c51b7 := c51b0; simp only [hl3_1, hl4_1] at c51b7))
         (try (have c52b7 := c52b0; simp only [hl3_1, hl4_1] at c52b7))
         clear c51 c52
         generalize hji55 : (wrap64 (x8_2 - 2)) = ji55 at H
         (try rw [hji55] at A53)
         (try rw [hji55] at A54)
         have hji55w := (i64_w _).trans hji55
         revert H; refine nd_ fun c56 c56b0 => nd_ fun c57 c57b0 => oa_ fun t252 A58 => oa_ fun t254 A59 H => ?_
         (try (have c56b7 := c56b0; simp only [hl3_1, hl4_1] at c56b7))
         (try (have c57b7 := c57b0; simp only [hl3_1, hl4_1] at c57b7))
         clear c56 c57
         generalize hji60 : (wrap64 (x8_2 - 16)) = ji60 at H
         (try rw [hji60] at A53)
         (try rw [hji60] at A54)
         (try rw [hji60] at A58)
         (try rw [hji60] at A59)
         have hji60w := (i64_w _).trans hji60
         revert H; refine nd_ fun c61 c61b0 => nd_ fun c62 c62b0 H => ?_
         (try (have c61b7 := c61b0; simp only [hl3_1, hl4_1] at c61b7))
         (try (have c62b7 := c62b0; simp only [hl3_1, hl4_1] at c62b7))
         clear c61 c62
         generalize hji63 : (wrap64 (x8_2 - 7)) = ji63 at H
         (try rw [hji63] at A53)
         (try rw [hji63] at A54)
         (try rw [hji63] at A58)
         (try rw [hji63] at A59)
         have hji63w := (i64_w _).trans hji63
         revert H; refine nd_ fun c64 c64b0 => nd_ fun c65 c65b0 => nd_ fun c66 c66b0 => nd_ fun c67 c67b0 H => ?_
         (try (have c64b7 := c64b0; simp only [hl3_1, hl4_1] at c64b7))
         (try (have c65b7 := c65b0; simp only [hl3_1, hl4_1] at c65b7))
         (try (have c66b7 := c66b0; simp only [hl3_1, hl4_1] at c66b7))
         (try (have c67b7 := c67b0; simp only [hl3_1, hl4_1] at c67b7))
         clear c64 c65 c66 c67
         generalize e_ : (x7_2.set (x8_2 : Int).toNat (((((rd x7_2 (ji60)) + (Go.bits .xor .u32 (Go.bits .xor .u32 t247 t249) ((rd x7_2 (ji50)) / 8))) + (rd x7_2 (ji63))) + (Go.bits .xor .u32 (Go.bits .xor .u32 t252 t254) ((rd x7_2 (ji55)) / 1024))) % 4294967296) : List Int) = y258 at H
         have Ny258 := Aside0.mk e_.symm
         clear e_
         have H' := Aside0.mk H
         clear H
         try go_wp2
         replace HB := Aside0.mk (below_drew1 HB.out)
         replace HO_7 := Aside0.mk (Kd.R_drew HO_7.out)
         replace HO_4 := Aside0.mk (Kd.R_drew HO_4.out)
         replace HO_3 := Aside0.mk (Kd.R_drew HO_3.out)
         obtain ⟨Ao70, co70, eo70⟩ := Kd.R_slice HO_7.out
         (first | subst eo70 | (injection eo70 with f1_ f2_ f3_; have f4_ := f1_.symm; have f5_ := f3_.symm; clear f1_ f2_ f3_; subst f4_; subst f5_))
         have qa246 : (((ji50) : Int) < (64 : Int)) = True := qa_ x7_2 64
         have p246 : 0 ≤ ((ji50) : Int) := ad_
         have q246 : (ji50) < (x7_2.length : Int) := ad_
         obtain ⟨ad246, e246, hx246_0⟩ := Kd.at_int (Kd.R_reads' HO_7.out).2.2 (ji50) p246 q246
         cases e246
         replace p246 := eq_true p246
         replace q246 := eq_true q246
         have qa248 : (((ji50) : Int) < (64 : Int)) = True := qa_ x7_2 64
         have p248 : 0 ≤ ((ji50) : Int) := ad_
         have q248 : (ji50) < (x7_2.length : Int) := ad_
         obtain ⟨ad248, e248, hx248_0⟩ := Kd.at_int (Kd.R_reads' HO_7.out).2.2 (ji50) p248 q248
         obtain rfl : ad246 = ad248 := (by injection e248)
         replace p248 := eq_true p248
         replace q248 := eq_true q248
         have qa250 : (((ji50) : Int) < (64 : Int)) = True := qa_ x7_2 64
         have p250 : 0 ≤ ((ji50) : Int) := ad_
         have q250 : (ji50) < (x7_2.length : Int) := ad_
         obtain ⟨ad250, e250, hx250_0⟩ := Kd.at_int (Kd.R_reads' HO_7.out).2.2 (ji50) p250 q250
         obtain rfl : ad246 = ad250 := (by injection e250)
         replace p250 := eq_true p250
         replace q250 := eq_true q250
         refine start_ (n := 18) (S := fun w' => w'.cell? (ad246.add ((ji50)).toNat) = some (.int .u32 (rd x7_2 (ji50))) ∧ w'.cell? (ad246.add ((ji50)).toNat) = some (.int .u32 (rd x7_2 (ji50))) ∧ w'.cell? (ad246.add ((ji50)).toNat) = some (.int .u32 (rd x7_2 (ji50)))) (ds := []) #[false, false, false, false, false, false, false, false, false, false, false, false, false, false, false, false, false, false] (by kernel_rfl) rfl rfl ⟨hx246_0, hx248_0, hx250_0⟩ (fun hHeld => ?_); refine with_tabW palaverref02_Sum.tab13 palaverref02_Sum.bits13 (fun HT_ HW_ => ?_)
         generalize wr.drew = w69 at HO_3 HO_4 HO_7 HB hx246_0 hx248_0 hx250_0 hHeld ⊢
         refine runs_ [(0, some 85), (1, some 86), (2, some 87), (5, some 90), (6, some 91), (7, some 92), (11, some 96), (12, some 97), (13, some 98)] ?_
         iterate 9 (refine pL_ ?_)
         refine runsE_ ?_
         refine runs_ [(3, some 88), (8, some 93), (14, some 99)] ?_
         iterate 3 (refine takeL_ (v := ?_) (a' := ?_) rfl rfl (take_ofW HT_.out HW_.out (by kernel_rfl)) (Or.inl ⟨by rfl, ?_⟩) hHeld ?_ ?_ (fun _ _ _ h => h); rotate_left; (rintro w' ⟨s0, s1, s2⟩; go_simp; with_reducible rfl); rotate_left; (simp only [pr_]; rfl))
         refine runsE_ ?_
         refine pure_ (i := 15) (N := some 100) (v := ?_) (a' := ?_) #[true, true, true, true, false, true, true, true, true, false, false, true, true, true, true, true, false, false] rfl rfl (any_of HT_.out (by kernel_rfl)) (fun _ _ _ h => h) (Or.inl ⟨by rfl, ?_⟩) ?_ ?_
         rotate_left
         ·intro w'
          go_simp
          with_reducible rfl
         rotate_left
         ·simp only [pr_]
          rfl
         refine one_ (i := 4) (N := some 89) #[true, true, true, true, true, true, true, true, true, false, false, true, true, true, true, true, false, false] rfl rfl (one_of HT_.out (by kernel_rfl)) (by decide) (fun K hK => ?_)
         refine goes_ Tryz.func94 (by kernel_rfl) rfl #[.int .u32 (rd x7_2 (ji50)), .int .u32 7] (by rfl) rfl rfl (by (try simp only [List.map_toArray, List.map_cons, List.map_nil]); first | done | (simp only [hji50]; rfl) | rfl | (simp only [List.length_drop, List.length_take]; rfl)) ?_
         with_reducible refine (palaverref02_turn.calls (rd x7_2 (ji50)) 7 t247 _ A53.out).mono ?_
         rintro e w' ⟨rfl, ⟨nd, rfl⟩⟩
         refine ⟨_, rfl, ?_⟩
         refine hK.out _ _ ⟨hHeld.1, hHeld.2.1, hHeld.2.2⟩ (fun hHeld => ?_)
         clear hK K
         refine norm_ (a' := ?_) ?_ ?_
         rotate_left
         ·show Act.put _ (some 89) _ = _
          simp only [pr_]
          rfl
         refine one_ (i := 9) (N := some 94) #[true, true, true, true, true, true, true, true, true, true, false, true, true, true, true, true, false, false] rfl rfl (one_of HT_.out (by kernel_rfl)) (by decide) (fun K hK => ?_)
         refine goes_ Tryz.func94 (by kernel_rfl) rfl #[.int .u32 (rd x7_2 (ji50)), .int .u32 18] (by rfl) rfl rfl (by (try simp only [List.map_toArray, List.map_cons, List.map_nil]); first | done | (simp only [hji50]; rfl) | rfl | (simp only [List.length_drop, List.length_take]; rfl)) ?_
         with_reducible refine (palaverref02_turn.calls (rd x7_2 (ji50)) 18 t249 _ A54.out).mono ?_
         rintro e w' ⟨rfl, ⟨nd, rfl⟩⟩
         refine ⟨_, rfl, ?_⟩
         refine hK.out _ _ ⟨hHeld.1, hHeld.2.1, hHeld.2.2⟩ (fun hHeld => ?_)
         clear hK K
         refine norm_ (a' := ?_) ?_ ?_
         rotate_left
         ·show Act.put _ (some 94) _ = _
          simp only [pr_]
          rfl
         refine runs_ [(10, some 95), (16, some 101), (17, some 9)] ?_
         iterate 3 (refine pL_ ?_)
         refine runsE_ ?_
         refine done_ (done_of HT_.out (by kernel_rfl)) ?_
         try go_wp2
         (try (rw [drewN_self w69]; generalize hq_ : World.drewN w69 _ = w69; have n0_ : Aside0 (Kd.R (Kd.int .u32) 130 w69 w.heap.size (fun _ => True) (.slice (some ⟨go5, 0, none⟩) x3_1.length co5) x3_1) := ⟨by rw [← hq_]; exact (mv_ HO_3.out)⟩; have n1_ : Aside0 (Kd.R (Kd.int .u32) 132 w69 w.heap.size (fun k_ => some k_ ≠ (.slice (some ad246) x7_2.length co70 : Value).ownBlock) (.slice (some ⟨go9, 0, none⟩) x4_1.length co9) x4_1) := ⟨by rw [← hq_]; exact (mv_ HO_4.out)⟩; have n2_ : Aside0 (Kd.R (Kd.int .u32) 132 w69 w.heap.size (fun k_ => some k_ ≠ (.slice (some ⟨go9, 0, none⟩) x4_1.length co9 : Value).ownBlock) (.slice (some ad246) x7_2.length co70) x7_2) := ⟨by rw [← hq_]; exact (mv_ HO_7.out)⟩; have n3_ : Aside0 (Below w.heap.size w w69) := ⟨by rw [← hq_]; exact bl_⟩; clear HO_3 HO_4 HO_7 HB hq_; have HO_3 := n0_; have HO_4 := n1_; have HO_7 := n2_; have HB := n3_; clear n0_ n1_ n2_ n3_))
         replace HB := Aside0.mk (below_drew1 HB.out)
         replace HO_7 := Aside0.mk (Kd.R_drew HO_7.out)
         replace HO_4 := Aside0.mk (Kd.R_drew HO_4.out)
         replace HO_3 := Aside0.mk (Kd.R_drew HO_3.out)
         have qa251 : (((ji55) : Int) < (64 : Int)) = True := qa_ x7_2 64
         have p251 : 0 ≤ ((ji55) : Int) := ad_
         have q251 : (ji55) < (x7_2.length : Int) := ad_
         obtain ⟨ad251, e251, hx251_0⟩ := Kd.at_int (Kd.R_reads' HO_7.out).2.2 (ji55) p251 q251
         obtain rfl : ad246 = ad251 := (by injection e251)
         replace p251 := eq_true p251
         replace q251 := eq_true q251
         have qa253 : (((ji55) : Int) < (64 : Int)) = True := qa_ x7_2 64
         have p253 : 0 ≤ ((ji55) : Int) := ad_
         have q253 : (ji55) < (x7_2.length : Int) := ad_
         obtain ⟨ad253, e253, hx253_0⟩ := Kd.at_int (Kd.R_reads' HO_7.out).2.2 (ji55) p253 q253
         obtain rfl : ad246 = ad253 := (by injection e253)
         replace p253 := eq_true p253
         replace q253 := eq_true q253
         have qa255 : (((ji55) : Int) < (64 : Int)) = True := qa_ x7_2 64
         have p255 : 0 ≤ ((ji55) : Int) := ad_
         have q255 : (ji55) < (x7_2.length : Int) := ad_
         obtain ⟨ad255, e255, hx255_0⟩ := Kd.at_int (Kd.R_reads' HO_7.out).2.2 (ji55) p255 q255
         obtain rfl : ad246 = ad255 := (by injection e255)
         replace p255 := eq_true p255
         replace q255 := eq_true q255
         refine start_ (n := 18) (S := fun w' => w'.cell? (ad246.add ((ji55)).toNat) = some (.int .u32 (rd x7_2 (ji55))) ∧ w'.cell? (ad246.add ((ji55)).toNat) = some (.int .u32 (rd x7_2 (ji55))) ∧ w'.cell? (ad246.add ((ji55)).toNat) = some (.int .u32 (rd x7_2 (ji55)))) (ds := []) #[false, false, false, false, false, false, false, false, false, false, false, false, false, false, false, false, false, false] (by kernel_rfl) rfl rfl ⟨hx251_0, hx253_0, hx255_0⟩ (fun hHeld => ?_); refine with_tabW palaverref02_Sum.tab14 palaverref02_Sum.bits14 (fun HT_ HW_ => ?_)
         generalize w69.drew = w71 at HO_3 HO_4 HO_7 HB hx251_0 hx253_0 hx255_0 hHeld ⊢
         refine runs_ [(0, some 102), (1, some 103), (2, some 104), (5, some 107), (6, some 108), (7, some 109), (11, some 113), (12, some 114), (13, some 115)] ?_
         iterate 9 (refine pL_ ?_)
         refine runsE_ ?_
         refine runs_ [(3, some 105), (8, some 110), (14, some 116)] ?_
         iterate 3 (refine takeL_ (v := ?_) (a' := ?_) rfl rfl (take_ofW HT_.out HW_.out (by kernel_rfl)) (Or.inl ⟨by rfl, ?_⟩) hHeld ?_ ?_ (fun _ _ _ h => h); rotate_left; (rintro w' ⟨s0, s1, s2⟩; go_simp; with_reducible rfl); rotate_left; (simp only [pr_]; rfl))
         refine runsE_ ?_
         refine pure_ (i := 15) (N := some 117) (v := ?_) (a' := ?_) #[true, true, true, true, false, true, true, true, true, false, false, true, true, true, true, true, false, false] rfl rfl (any_of HT_.out (by kernel_rfl)) (fun _ _ _ h => h) (Or.inl ⟨by rfl, ?_⟩) ?_ ?_
         rotate_left
         ·intro w'
          go_simp
          with_reducible rfl
         rotate_left
         ·simp only [pr_]
          rfl
         refine one_ (i := 4) (N := some 106) #[true, true, true, true, true, true, true, true, true, false, false, true, true, true, true, true, false, false] rfl rfl (one_of HT_.out (by kernel_rfl)) (by decide) (fun K hK => ?_)
         refine goes_ Tryz.func94 (by kernel_rfl) rfl #[.int .u32 (rd x7_2 (ji55)), .int .u32 17] (by rfl) rfl rfl (by (try simp only [List.map_toArray, List.map_cons, List.map_nil]); first | done | (simp only [hji55]; rfl) | rfl | (simp only [List.length_drop, List.length_take]; rfl)) ?_
         with_reducible refine (palaverref02_turn.calls (rd x7_2 (ji55)) 17 t252 _ A58.out).mono ?_
         rintro e w' ⟨rfl, ⟨nd, rfl⟩⟩
         refine ⟨_, rfl, ?_⟩
         refine hK.out _ _ ⟨hHeld.1, hHeld.2.1, hHeld.2.2⟩ (fun hHeld => ?_)
         clear hK K
         refine norm_ (a' := ?_) ?_ ?_
         rotate_left
         ·show Act.put _ (some 106) _ = _
          simp only [pr_]
          rfl
         refine one_ (i := 9) (N := some 111) #[true, true, true, true, true, true, true, true, true, true, false, true, true, true, true, true, false, false] rfl rfl (one_of HT_.out (by kernel_rfl)) (by decide) (fun K hK => ?_)
         refine goes_ Tryz.func94 (by kernel_rfl) rfl #[.int .u32 (rd x7_2 (ji55)), .int .u32 19] (by rfl) rfl rfl (by (try simp only [List.map_toArray, List.map_cons, List.map_nil]); first | done | (simp only [hji55]; rfl) | rfl | (simp only [List.length_drop, List.length_take]; rfl)) ?_
         with_reducible refine (palaverref02_turn.calls (rd x7_2 (ji55)) 19 t254 _ A59.out).mono ?_
         rintro e w' ⟨rfl, ⟨nd, rfl⟩⟩
         refine ⟨_, rfl, ?_⟩
         refine hK.out _ _ ⟨hHeld.1, hHeld.2.1, hHeld.2.2⟩ (fun hHeld => ?_)
         clear hK K
         refine norm_ (a' := ?_) ?_ ?_
         rotate_left
         ·show Act.put _ (some 111) _ = _
          simp only [pr_]
          rfl
         refine runs_ [(10, some 112), (16, some 118), (17, some 10)] ?_
         iterate 3 (refine pL_ ?_)
         refine runsE_ ?_
         refine done_ (done_of HT_.out (by kernel_rfl)) ?_
         try go_wp2
         (try (rw [drewN_self w71]; generalize hq_ : World.drewN w71 _ = w71; have n0_ : Aside0 (Kd.R (Kd.int .u32) 130 w71 w.heap.size (fun _ => True) (.slice (some ⟨go5, 0, none⟩) x3_1.length co5) x3_1) := ⟨by rw [← hq_]; exact (mv_ HO_3.out)⟩; have n1_ : Aside0 (Kd.R (Kd.int .u32) 132 w71 w.heap.size (fun k_ => some k_ ≠ (.slice (some ad246) x7_2.length co70 : Value).ownBlock) (.slice (some ⟨go9, 0, none⟩) x4_1.length co9) x4_1) := ⟨by rw [← hq_]; exact (mv_ HO_4.out)⟩; have n2_ : Aside0 (Kd.R (Kd.int .u32) 132 w71 w.heap.size (fun k_ => some k_ ≠ (.slice (some ⟨go9, 0, none⟩) x4_1.length co9 : Value).ownBlock) (.slice (some ad246) x7_2.length co70) x7_2) := ⟨by rw [← hq_]; exact (mv_ HO_7.out)⟩; have n3_ : Aside0 (Below w.heap.size w w71) := ⟨by rw [← hq_]; exact bl_⟩; clear HO_3 HO_4 HO_7 HB hq_; have HO_3 := n0_; have HO_4 := n1_; have HO_7 := n2_; have HB := n3_; clear n0_ n1_ n2_ n3_))
         replace HB := Aside0.mk (below_drew1 HB.out)
         replace HO_7 := Aside0.mk (Kd.R_drew HO_7.out)
         replace HO_4 := Aside0.mk (Kd.R_drew HO_4.out)
         replace HO_3 := Aside0.mk (Kd.R_drew HO_3.out)
         have qa256 : (((ji60) : Int) < (64 : Int)) = True := qa_ x7_2 64
         have p256 : 0 ≤ ((ji60) : Int) := ad_
         have q256 : (ji60) < (x7_2.length : Int) := ad_
         obtain ⟨ad256, e256, hx256_0⟩ := Kd.at_int (Kd.R_reads' HO_7.out).2.2 (ji60) p256 q256
         obtain rfl : ad246 = ad256 := (by injection e256)
         replace p256 := eq_true p256
         replace q256 := eq_true q256
         have qa257 : (((ji63) : Int) < (64 : Int)) = True := qa_ x7_2 64
         have p257 : 0 ≤ ((ji63) : Int) := ad_
         have q257 : (ji63) < (x7_2.length : Int) := ad_
         obtain ⟨ad257, e257, hx257_0⟩ := Kd.at_int (Kd.R_reads' HO_7.out).2.2 (ji63) p257 q257
         obtain rfl : ad246 = ad257 := (by injection e257)
         replace p257 := eq_true p257
         replace q257 := eq_true q257
         have qa68 : ((x8_2 : Int) < (64 : Int)) = True := qa_ x7_2 64
         have p68 : 0 ≤ (x8_2 : Int) := ad_
         have q68 : (x8_2 : Int) < ((x7_2.length : Int) : Int) := ad_
         obtain ⟨go68, co68, eo68, gb68, gl68, cl68, HG68⟩ := Kd.R_form HO_7.out (by omega)
         (first | cases eo68 | (injection eo68 with ea_ en_ ec_; (first | subst ea_ | (injection ea_ with ea_; subst ea_)); subst ec_; clear en_))
         have GB68 := Aside0.mk gb68
         have GG68 := Aside0.mk HG68
         clear gb68 gl68 HG68
         (first | simp only [add_plain] at hx246_0 | skip)
         (first | simp only [add_plain] at hx248_0 | skip)
         (first | simp only [add_plain] at hx250_0 | skip)
         (first | simp only [add_plain] at hx251_0 | skip)
         (first | simp only [add_plain] at hx253_0 | skip)
         (first | simp only [add_plain] at hx255_0 | skip)
         (first | simp only [add_plain] at hx256_0 | skip)
         (first | simp only [add_plain] at hx257_0 | skip)
         obtain ⟨hx68_0, hf68_0⟩ := Kd.R_celln 0 HO_7.out (x8_2 : Int) p68 q68
         replace p68 := eq_true p68
         replace q68 := eq_true q68
         have HP73 := Kd.R_putn HO_7.out (x8_2 : Int) (((((rd x7_2 (ji60)) + (Go.bits .xor .u32 (Go.bits .xor .u32 t247 t249) ((rd x7_2 (ji50)) / 8))) + (rd x7_2 (ji63))) + (Go.bits .xor .u32 (Go.bits .xor .u32 t252 t254) ((rd x7_2 (ji55)) / 1024))) % 4294967296)
         rw [← Ny258.out] at HP73
         have HQ73 := Aside0.mk HP73
         clear HP73
         refine start_ (n := 16) (S := fun w' => w'.cell? ⟨go68, ((ji60)).toNat, none⟩ = some (.int .u32 (rd x7_2 (ji60))) ∧ w'.cell? ⟨go68, ((ji63)).toNat, none⟩ = some (.int .u32 (rd x7_2 (ji63)))) (ds := [15]) #[false, false, false, false, false, false, false, false, false, false, false, false, false, false, false, false] (by kernel_rfl) rfl rfl ⟨hx256_0, hx257_0⟩ (fun hHeld => ?_); refine with_tabW palaverref02_Sum.tab15 palaverref02_Sum.bits15 (fun HT_ HW_ => ?_)
         generalize w71.drew = w72 at HO_3 HO_4 HO_7 HB GG68 HQ73 hf68_0 hx246_0 hx248_0 hx250_0 hx251_0 hx253_0 hx255_0 hx256_0 hx257_0 hx68_0 hHeld ⊢
         refine runs_ [(0, some 119), (1, some 120), (2, some 121), (3, some 122), (5, some 124), (7, some 126), (8, some 127), (9, some 128), (12, some 131)] ?_
         iterate 9 (refine pL_ ?_)
         refine runsE_ ?_
         refine take_ (i := 4) (N := some 123) (v := ?_) (a' := ?_) #[true, true, true, true, true, true, false, true, true, true, false, false, true, false, false, false] rfl rfl (take_ofW HT_.out HW_.out (by kernel_rfl)) (fun _ _ _ h => h) (Or.inl ⟨by rfl, ?_⟩) hHeld ?_ ?_
         rotate_left
         ·rintro w' ⟨s0, s1⟩
          go_simp
          with_reducible rfl
         rotate_left
         ·simp only [pr_]
          rfl
         refine pure_ (i := 6) (N := some 125) (v := ?_) (a' := ?_) #[true, true, true, true, true, true, true, true, true, true, false, false, true, false, false, false] rfl rfl (any_of HT_.out (by kernel_rfl)) (fun _ _ _ h => h) (Or.inl ⟨by rfl, ?_⟩) ?_ ?_
         rotate_left
         ·intro w'
          go_simp
          with_reducible rfl
         rotate_left
         ·simp only [pr_]
          rfl
         refine take_ (i := 10) (N := some 129) (v := ?_) (a' := ?_) #[true, true, true, true, true, true, true, true, true, true, true, false, true, false, false, false] rfl rfl (take_ofW HT_.out HW_.out (by kernel_rfl)) (fun _ _ _ h => h) (Or.inl ⟨by rfl, ?_⟩) hHeld ?_ ?_
         rotate_left
         ·rintro w' ⟨s0, s1⟩
          go_simp
          with_reducible rfl
         rotate_left
         ·simp only [pr_]
          rfl
         refine runs_ [(11, some 130), (13, some 132), (14, some 133)] ?_
         iterate 3 (refine pL_ ?_)
         refine runsE_ ?_
         refine last_ (i := 15) (N := none) #[true, true, true, true, true, true, true, true, true, true, true, true, true, true, true, true] rfl rfl (one_of HT_.out (by kernel_rfl)) (by decide) (fun K hK => ?_)
         refine skip_set ⟨go68, (x8_2 : Int).toNat, none⟩ (.int .u32 (((((rd x7_2 (ji60)) + (Go.bits .xor .u32 (Go.bits .xor .u32 t247 t249) ((rd x7_2 (ji50)) / 8))) + (rd x7_2 (ji63))) + (Go.bits .xor .u32 (Go.bits .xor .u32 t252 t254) ((rd x7_2 (ji55)) / 1024))) % 4294967296)) (by rfl) rfl ?_ ?_
         ·first | (go_simp; done) | (go_simp; rfl) | (go_simp; (try simp only [IntKind.wrap_u32, IntKind.wrap_u8]); refine congrArg (fun v_ => World.setCell _ _ (Value.int _ v_)) ?_; omega)
         refine hK.out _ _ ?_
         clear hK K
         refine done_ (done_of HT_.out (by kernel_rfl)) ?_
         try go_wp2
         go_roundg k2
         case measure => have := HK1.out; have := HK2.out; omega
         case rel => exact ⟨(y258), (wrap64 (x8_2 + 1)), vq_, H', ⟨by have := HK1.out; have := HK2.out; omega⟩, ⟨by (try simp only [hl3_1]); (try simp only [hl4_1]); refine mv_ ?_; exact Kd.R_mono (Kd.R_far (p := ⟨go68, (x8_2 : Int).toNat, none⟩) (Kd.R_types HO_3.out GG68.out (by decide)) (fun _ hk => hk.2) (.int .u32 (((((rd x7_2 (ji60)) + (Go.bits .xor .u32 (Go.bits .xor .u32 t247 t249) ((rd x7_2 (ji50)) / 8))) + (rd x7_2 (ji63))) + (Go.bits .xor .u32 (Go.bits .xor .u32 t252 t254) ((rd x7_2 (ji55)) / 1024))) % 4294967296))) (fun _ hk => trivial)⟩, ⟨by (try simp only [hl3_1]); (try simp only [hl4_1]); refine mv_ ?_; exact Kd.R_mono (Kd.R_far (p := ⟨go68, (x8_2 : Int).toNat, none⟩) (Kd.R_mono HO_4.out (fun k_ hk => (⟨hk, fun e_ => hk (by rw [e_]; rfl)⟩ : _ ∧ k_ ≠ go68))) (fun _ hk => hk.2) (.int .u32 (((((rd x7_2 (ji60)) + (Go.bits .xor .u32 (Go.bits .xor .u32 t247 t249) ((rd x7_2 (ji50)) / 8))) + (rd x7_2 (ji63))) + (Go.bits .xor .u32 (Go.bits .xor .u32 t252 t254) ((rd x7_2 (ji55)) / 1024))) % 4294967296))) (fun _ hk => hk.1)⟩, ⟨by (try simp only [hl3_1]); (try simp only [hl4_1]); refine mv_ ?_; exact HQ73.out⟩, ⟨bs_ GB68.out⟩⟩
        ·rw [if_neg c49] at H
         exact absurd H (by simp)
        ⟩
        exact inferInstanceAs _
       ⟩
       exact inferInstanceAs _
      refine Nonempty.elim ?gc25n id
      letI i_ : type_of% ?gc25n := ⟨by
      rw [if_neg c25] at H
      have c25b0 : decide (x8_2 < 64) = false := decide_eq_false c25
      (try (have c25b7 := c25b0; simp only [hl3_1, hl4_1] at c25b7))
      clear c25
      by_cases c74 : x3_1.length = 8
      ·rw [if_pos c74] at H
       have c74b0 := eq_true c74
       have c74b1 : decide (x3_1.length = 8) = true := decide_eq_true c74
       clear c74
       revert H; refine nd_ fun c75 c75b0 => nd_ fun c76 c76b0 => nd_ fun c77 c77b0 => nd_ fun c78 c78b0 => nd_ fun c79 c79b0 => nd_ fun c80 c80b0 => nd_ fun c81 c81b0 => nd_ fun c82 c82b0 H => ?_
       have c75b1 : decide (0 < x3_1.length) = true := decide_eq_true (by omega)
       (try (have c75b7 := c75b0; simp only [hl3_1, hl4_1] at c75b7))
       (try (have c75b8 := c75b1; simp only [hl3_1, hl4_1] at c75b8))
       have c76b1 : decide (1 < x3_1.length) = true := decide_eq_true (by omega)
       (try (have c76b7 := c76b0; simp only [hl3_1, hl4_1] at c76b7))
       (try (have c76b8 := c76b1; simp only [hl3_1, hl4_1] at c76b8))
       have c77b1 : decide (2 < x3_1.length) = true := decide_eq_true (by omega)
       (try (have c77b7 := c77b0; simp only [hl3_1, hl4_1] at c77b7))
       (try (have c77b8 := c77b1; simp only [hl3_1, hl4_1] at c77b8))
       have c78b1 : decide (3 < x3_1.length) = true := decide_eq_true (by omega)
       (try (have c78b7 := c78b0; simp only [hl3_1, hl4_1] at c78b7))
       (try (have c78b8 := c78b1; simp only [hl3_1, hl4_1] at c78b8))
       have c79b1 : decide (4 < x3_1.length) = true := decide_eq_true (by omega)
       (try (have c79b7 := c79b0; simp only [hl3_1, hl4_1] at c79b7))
       (try (have c79b8 := c79b1; simp only [hl3_1, hl4_1] at c79b8))
       have c80b1 : decide (5 < x3_1.length) = true := decide_eq_true (by omega)
       (try (have c80b7 := c80b0; simp only [hl3_1, hl4_1] at c80b7))
       (try (have c80b8 := c80b1; simp only [hl3_1, hl4_1] at c80b8))
       have c81b1 : decide (6 < x3_1.length) = true := decide_eq_true (by omega)
       (try (have c81b7 := c81b0; simp only [hl3_1, hl4_1] at c81b7))
       (try (have c81b8 := c81b1; simp only [hl3_1, hl4_1] at c81b8))
       have c82b1 : decide (7 < x3_1.length) = true := decide_eq_true (by omega)
       (try (have c82b7 := c82b0; simp only [hl3_1, hl4_1] at c82b7))
       (try (have c82b8 := c82b1; simp only [hl3_1, hl4_1] at c82b8))
       clear c75 c76 c77 c78 c79 c80 c81 c82
       have H' := Aside0.mk H
       clear H
       try go_wp2
       replace HB := Aside0.mk (below_drew1 HB.out)
       replace HO_7 := Aside0.mk (Kd.R_drew HO_7.out)
       replace HO_4 := Aside0.mk (Kd.R_drew HO_4.out)
       replace HO_3 := Aside0.mk (Kd.R_drew HO_3.out)
       have qa259 : ((0 : Int) < (8 : Int)) = True := qa_ x3_1 8
       have p259 : 0 ≤ (0 : Int) := (by omega)
       have q259 : 0 < (x3_1.length : Int) := ad_
       obtain ⟨ad259, e259, hx259_0⟩ := Kd.at_int (Kd.R_reads' HO_3.out).2.2 0 p259 q259
       obtain rfl : (⟨go5, 0, none⟩ : Addr) = ad259 := (by injection e259)
       (first | simp only [add_plain] at hx259_0 | simp only [add_at] at hx259_0 | simp only [Addr.add, Nat.zero_add] at hx259_0 | skip)
       have qi259 : (0 < x3_1.length) = True := eq_true (by omega)
       (try rw [show ((0 : Int)).toNat = 0 from rfl] at hx259_0)
       (try rw [Addr.add_zero'] at hx259_0)
       replace p259 := eq_true p259
       replace q259 := eq_true q259
       have qa260 : ((1 : Int) < (8 : Int)) = True := qa_ x3_1 8
       have p260 : 0 ≤ (1 : Int) := (by omega)
       have q260 : 1 < (x3_1.length : Int) := ad_
       obtain ⟨ad260, e260, hx260_0⟩ := Kd.at_int (Kd.R_reads' HO_3.out).2.2 1 p260 q260
       obtain rfl : (⟨go5, 0, none⟩ : Addr) = ad260 := (by injection e260)
       (first | simp only [add_plain] at hx260_0 | simp only [add_at] at hx260_0 | simp only [Addr.add, Nat.zero_add] at hx260_0 | skip)
       have qi260 : (1 < x3_1.length) = True := eq_true (by omega)
       (try rw [show ((1 : Int)).toNat = 1 from rfl] at hx260_0)
       replace p260 := eq_true p260
       replace q260 := eq_true q260
       have qa261 : ((2 : Int) < (8 : Int)) = True := qa_ x3_1 8
       have p261 : 0 ≤ (2 : Int) := (by omega)
       have q261 : 2 < (x3_1.length : Int) := ad_
       obtain ⟨ad261, e261, hx261_0⟩ := Kd.at_int (Kd.R_reads' HO_3.out).2.2 2 p261 q261
       obtain rfl : (⟨go5, 0, none⟩ : Addr) = ad261 := (by injection e261)
       (first | simp only [add_plain] at hx261_0 | simp only [add_at] at hx261_0 | simp only [Addr.add, Nat.zero_add] at hx261_0 | skip)
       have qi261 : (2 < x3_1.length) = True := eq_true (by omega)
       (try rw [show ((2 : Int)).toNat = 2 from rfl] at hx261_0)
       replace p261 := eq_true p261
       replace q261 := eq_true q261
       have qa262 : ((3 : Int) < (8 : Int)) = True := qa_ x3_1 8
       have p262 : 0 ≤ (3 : Int) := (by omega)
       have q262 : 3 < (x3_1.length : Int) := ad_
       obtain ⟨ad262, e262, hx262_0⟩ := Kd.at_int (Kd.R_reads' HO_3.out).2.2 3 p262 q262
       obtain rfl : (⟨go5, 0, none⟩ : Addr) = ad262 := (by injection e262)
       (first | simp only [add_plain] at hx262_0 | simp only [add_at] at hx262_0 | simp only [Addr.add, Nat.zero_add] at hx262_0 | skip)
       have qi262 : (3 < x3_1.length) = True := eq_true (by omega)
       (try rw [show ((3 : Int)).toNat = 3 from rfl] at hx262_0)
       replace p262 := eq_true p262
       replace q262 := eq_true q262
       have qa263 : ((4 : Int) < (8 : Int)) = True := qa_ x3_1 8
       have p263 : 0 ≤ (4 : Int) := (by omega)
       have q263 : 4 < (x3_1.length : Int) := ad_
       obtain ⟨ad263, e263, hx263_0⟩ := Kd.at_int (Kd.R_reads' HO_3.out).2.2 4 p263 q263
       obtain rfl : (⟨go5, 0, none⟩ : Addr) = ad263 := (by injection e263)
       (first | simp only [add_plain] at hx263_0 | simp only [add_at] at hx263_0 | simp only [Addr.add, Nat.zero_add] at hx263_0 | skip)
       have qi263 : (4 < x3_1.length) = True := eq_true (by omega)
       (try rw [show ((4 : Int)).toNat = 4 from rfl] at hx263_0)
       replace p263 := eq_true p263
       replace q263 := eq_true q263
       have qa264 : ((5 : Int) < (8 : Int)) = True := qa_ x3_1 8
       have p264 : 0 ≤ (5 : Int) := (by omega)
       have q264 : 5 < (x3_1.length : Int) := ad_
       obtain ⟨ad264, e264, hx264_0⟩ := Kd.at_int (Kd.R_reads' HO_3.out).2.2 5 p264 q264
       obtain rfl : (⟨go5, 0, none⟩ : Addr) = ad264 := (by injection e264)
       (first | simp only [add_plain] at hx264_0 | simp only [add_at] at hx264_0 | simp only [Addr.add, Nat.zero_add] at hx264_0 | skip)
       have qi264 : (5 < x3_1.length) = True := eq_true (by omega)
       (try rw [show ((5 : Int)).toNat = 5 from rfl] at hx264_0)
       replace p264 := eq_true p264
       replace q264 := eq_true q264
       have qa265 : ((6 : Int) < (8 : Int)) = True := qa_ x3_1 8
       have p265 : 0 ≤ (6 : Int) := (by omega)
       have q265 : 6 < (x3_1.length : Int) := ad_
       obtain ⟨ad265, e265, hx265_0⟩ := Kd.at_int (Kd.R_reads' HO_3.out).2.2 6 p265 q265
       obtain rfl : (⟨go5, 0, none⟩ : Addr) = ad265 := (by injection e265)
       (first | simp only [add_plain] at hx265_0 | simp only [add_at] at hx265_0 | simp only [Addr.add, Nat.zero_add] at hx265_0 | skip)
       have qi265 : (6 < x3_1.length) = True := eq_true (by omega)
       (try rw [show ((6 : Int)).toNat = 6 from rfl] at hx265_0)
       replace p265 := eq_true p265
       replace q265 := eq_true q265
       have qa266 : ((7 : Int) < (8 : Int)) = True := qa_ x3_1 8
       have p266 : 0 ≤ (7 : Int) := (by omega)
       have q266 : 7 < (x3_1.length : Int) := ad_
       obtain ⟨ad266, e266, hx266_0⟩ := Kd.at_int (Kd.R_reads' HO_3.out).2.2 7 p266 q266
       obtain rfl : (⟨go5, 0, none⟩ : Addr) = ad266 := (by injection e266)
       (first | simp only [add_plain] at hx266_0 | simp only [add_at] at hx266_0 | simp only [Addr.add, Nat.zero_add] at hx266_0 | skip)
       have qi266 : (7 < x3_1.length) = True := eq_true (by omega)
       (try rw [show ((7 : Int)).toNat = 7 from rfl] at hx266_0)
       replace p266 := eq_true p266
       replace q266 := eq_true q266
       refine start_ (n := 24) (S := fun w' => w'.cell? ⟨go5, 0, none⟩ = some (.int .u32 (rd x3_1 0)) ∧ w'.cell? ⟨go5, 1, none⟩ = some (.int .u32 (rd x3_1 1)) ∧ w'.cell? ⟨go5, 2, none⟩ = some (.int .u32 (rd x3_1 2)) ∧ w'.cell? ⟨go5, 3, none⟩ = some (.int .u32 (rd x3_1 3)) ∧ w'.cell? ⟨go5, 4, none⟩ = some (.int .u32 (rd x3_1 4)) ∧ w'.cell? ⟨go5, 5, none⟩ = some (.int .u32 (rd x3_1 5)) ∧ w'.cell? ⟨go5, 6, none⟩ = some (.int .u32 (rd x3_1 6)) ∧ w'.cell? ⟨go5, 7, none⟩ = some (.int .u32 (rd x3_1 7))) (ds := []) #[false, false, false, false, false, false, false, false, false, false, false, false, false, false, false, false, false, false, false, false, false, false, false, false] (by kernel_rfl) rfl rfl ⟨hx259_0, hx260_0, hx261_0, hx262_0, hx263_0, hx264_0, hx265_0, hx266_0⟩ (fun hHeld => ?_); refine with_tabW palaverref02_Sum.tab16 palaverref02_Sum.bits16 (fun HT_ HW_ => ?_)
       generalize wr.drew = w83 at HO_3 HO_4 HO_7 HB hx259_0 hx260_0 hx261_0 hx262_0 hx263_0 hx264_0 hx265_0 hx266_0 hHeld ⊢
       refine runs_ [(0, some 134), (2, some 136), (4, some 138), (6, some 140), (8, some 142), (10, some 144), (12, some 146), (14, some 148)] ?_
       iterate 8 (refine pL_ ?_)
       refine runsE_ ?_
       refine take_ (i := 1) (N := some 135) (v := ?_) (a' := ?_) #[true, true, true, false, true, false, true, false, true, false, true, false, true, false, true, false, false, false, false, false, false, false, false, false] rfl rfl (take_ofW HT_.out HW_.out (by kernel_rfl)) (fun _ _ _ h => h) (Or.inl ⟨by rfl, ?_⟩) hHeld ?_ ?_
       rotate_left
       ·rintro w' ⟨s0, s1, s2, s3, s4, s5, s6, s7⟩
        go_simp
        with_reducible rfl
       rotate_left
       ·simp only [pr_]
        rfl
       refine pure_ (i := 16) (N := some 11) (v := ?_) (a' := ?_) #[true, true, true, false, true, false, true, false, true, false, true, false, true, false, true, false, true, false, false, false, false, false, false, false] rfl rfl (any_of HT_.out (by kernel_rfl)) (fun _ _ _ h => h) (Or.inl ⟨by rfl, ?_⟩) ?_ ?_
       rotate_left
       ·intro w'
        go_simp
        with_reducible rfl
       rotate_left
       ·simp only [pr_]
        rfl
       refine take_ (i := 3) (N := some 137) (v := ?_) (a' := ?_) #[true, true, true, true, true, false, true, false, true, false, true, false, true, false, true, false, true, false, false, false, false, false, false, false] rfl rfl (take_ofW HT_.out HW_.out (by kernel_rfl)) (fun _ _ _ h => h) (Or.inl ⟨by rfl, ?_⟩) hHeld ?_ ?_
       rotate_left
       ·rintro w' ⟨s0, s1, s2, s3, s4, s5, s6, s7⟩
        go_simp
        with_reducible rfl
       rotate_left
       ·simp only [pr_]
        rfl
       refine pure_ (i := 17) (N := some 12) (v := ?_) (a' := ?_) #[true, true, true, true, true, false, true, false, true, false, true, false, true, false, true, false, true, true, false, false, false, false, false, false] rfl rfl (any_of HT_.out (by kernel_rfl)) (fun _ _ _ h => h) (Or.inl ⟨by rfl, ?_⟩) ?_ ?_
       rotate_left
       ·intro w'
        go_simp
        with_reducible rfl
       rotate_left
       ·simp only [pr_]
        rfl
       refine take_ (i := 5) (N := some 139) (v := ?_) (a' := ?_) #[true, true, true, true, true, true, true, false, true, false, true, false, true, false, true, false, true, true, false, false, false, false, false, false] rfl rfl (take_ofW HT_.out HW_.out (by kernel_rfl)) (fun _ _ _ h => h) (Or.inl ⟨by rfl, ?_⟩) hHeld ?_ ?_
       rotate_left
       ·rintro w' ⟨s0, s1, s2, s3, s4, s5, s6, s7⟩
        go_simp
        with_reducible rfl
       rotate_left
       ·simp only [pr_]
        rfl
       refine pure_ (i := 18) (N := some 13) (v := ?_) (a' := ?_) #[true, true, true, true, true, true, true, false, true, false, true, false, true, false, true, false, true, true, true, false, false, false, false, false] rfl rfl (any_of HT_.out (by kernel_rfl)) (fun _ _ _ h => h) (Or.inl ⟨by rfl, ?_⟩) ?_ ?_
       rotate_left
       ·intro w'
        go_simp
        with_reducible rfl
       rotate_left
       ·simp only [pr_]
        rfl
       refine take_ (i := 7) (N := some 141) (v := ?_) (a' := ?_) #[true, true, true, true, true, true, true, true, true, false, true, false, true, false, true, false, true, true, true, false, false, false, false, false] rfl rfl (take_ofW HT_.out HW_.out (by kernel_rfl)) (fun _ _ _ h => h) (Or.inl ⟨by rfl, ?_⟩) hHeld ?_ ?_
       rotate_left
       ·rintro w' ⟨s0, s1, s2, s3, s4, s5, s6, s7⟩
        go_simp
        with_reducible rfl
       rotate_left
       ·simp only [pr_]
        rfl
       refine pure_ (i := 19) (N := some 14) (v := ?_) (a' := ?_) #[true, true, true, true, true, true, true, true, true, false, true, false, true, false, true, false, true, true, true, true, false, false, false, false] rfl rfl (any_of HT_.out (by kernel_rfl)) (fun _ _ _ h => h) (Or.inl ⟨by rfl, ?_⟩) ?_ ?_
       rotate_left
       ·intro w'
        go_simp
        with_reducible rfl
       rotate_left
       ·simp only [pr_]
        rfl
       refine take_ (i := 9) (N := some 143) (v := ?_) (a' := ?_) #[true, true, true, true, true, true, true, true, true, true, true, false, true, false, true, false, true, true, true, true, false, false, false, false] rfl rfl (take_ofW HT_.out HW_.out (by kernel_rfl)) (fun _ _ _ h => h) (Or.inl ⟨by rfl, ?_⟩) hHeld ?_ ?_
       rotate_left
       ·rintro w' ⟨s0, s1, s2, s3, s4, s5, s6, s7⟩
        go_simp
        with_reducible rfl
       rotate_left
       ·simp only [pr_]
        rfl
       refine pure_ (i := 20) (N := some 15) (v := ?_) (a' := ?_) #[true, true, true, true, true, true, true, true, true, true, true, false, true, false, true, false, true, true, true, true, true, false, false, false] rfl rfl (any_of HT_.out (by kernel_rfl)) (fun _ _ _ h => h) (Or.inl ⟨by rfl, ?_⟩) ?_ ?_
       rotate_left
       ·intro w'
        go_simp
        with_reducible rfl
       rotate_left
       ·simp only [pr_]
        rfl
       refine take_ (i := 11) (N := some 145) (v := ?_) (a' := ?_) #[true, true, true, true, true, true, true, true, true, true, true, true, true, false, true, false, true, true, true, true, true, false, false, false] rfl rfl (take_ofW HT_.out HW_.out (by kernel_rfl)) (fun _ _ _ h => h) (Or.inl ⟨by rfl, ?_⟩) hHeld ?_ ?_
       rotate_left
       ·rintro w' ⟨s0, s1, s2, s3, s4, s5, s6, s7⟩
        go_simp
        with_reducible rfl
       rotate_left
       ·simp only [pr_]
        rfl
       refine pure_ (i := 21) (N := some 16) (v := ?_) (a' := ?_) #[true, true, true, true, true, true, true, true, true, true, true, true, true, false, true, false, true, true, true, true, true, true, false, false] rfl rfl (any_of HT_.out (by kernel_rfl)) (fun _ _ _ h => h) (Or.inl ⟨by rfl, ?_⟩) ?_ ?_
       rotate_left
       ·intro w'
        go_simp
        with_reducible rfl
       rotate_left
       ·simp only [pr_]
        rfl
       refine take_ (i := 13) (N := some 147) (v := ?_) (a' := ?_) #[true, true, true, true, true, true, true, true, true, true, true, true, true, true, true, false, true, true, true, true, true, true, false, false] rfl rfl (take_ofW HT_.out HW_.out (by kernel_rfl)) (fun _ _ _ h => h) (Or.inl ⟨by rfl, ?_⟩) hHeld ?_ ?_
       rotate_left
       ·rintro w' ⟨s0, s1, s2, s3, s4, s5, s6, s7⟩
        go_simp
        with_reducible rfl
       rotate_left
       ·simp only [pr_]
        rfl
       refine pure_ (i := 22) (N := some 17) (v := ?_) (a' := ?_) #[true, true, true, true, true, true, true, true, true, true, true, true, true, true, true, false, true, true, true, true, true, true, true, false] rfl rfl (any_of HT_.out (by kernel_rfl)) (fun _ _ _ h => h) (Or.inl ⟨by rfl, ?_⟩) ?_ ?_
       rotate_left
       ·intro w'
        go_simp
        with_reducible rfl
       rotate_left
       ·simp only [pr_]
        rfl
       refine take_ (i := 15) (N := some 149) (v := ?_) (a' := ?_) #[true, true, true, true, true, true, true, true, true, true, true, true, true, true, true, true, true, true, true, true, true, true, true, false] rfl rfl (take_ofW HT_.out HW_.out (by kernel_rfl)) (fun _ _ _ h => h) (Or.inl ⟨by rfl, ?_⟩) hHeld ?_ ?_
       rotate_left
       ·rintro w' ⟨s0, s1, s2, s3, s4, s5, s6, s7⟩
        go_simp
        with_reducible rfl
       rotate_left
       ·simp only [pr_]
        rfl
       refine pure_ (i := 23) (N := some 18) (v := ?_) (a' := ?_) #[true, true, true, true, true, true, true, true, true, true, true, true, true, true, true, true, true, true, true, true, true, true, true, true] rfl rfl (any_of HT_.out (by kernel_rfl)) (fun _ _ _ h => h) (Or.inl ⟨by rfl, ?_⟩) ?_ ?_
       rotate_left
       ·intro w'
        go_simp
        with_reducible rfl
       rotate_left
       ·simp only [pr_]
        rfl
       refine done_ (done_of HT_.out (by kernel_rfl)) ?_
       try go_wp2
       go_loopg [11, 12, 13, 14, 15, 16, 17, 18, 19] k2 (fun kq v11 v12 v13 v14 v15 v16 v17 v18 v19 w' => ∃ (x11_3 : Int) (x12_3 : Int) (x13_3 : Int) (x14_3 : Int) (x15_3 : Int) (x16_3 : Int) (x17_3 : Int) (x18_3 : Int) (x19_3 : Int), v11 = .int .u32 x11_3 ∧ v12 = .int .u32 x12_3 ∧ v13 = .int .u32 x13_3 ∧ v14 = .int .u32 x14_3 ∧ v15 = .int .u32 x15_3 ∧ v16 = .int .u32 x16_3 ∧ v17 = .int .u32 x17_3 ∧ v18 = .int .u32 x18_3 ∧ v19 = .int .i64 x19_3 ∧ Aside0 (palaverref02_Sum.l2 kq x3_1 x4_1 t241 x6_1 x7_2 x11_3 x12_3 x13_3 x14_3 x15_3 x16_3 x17_3 x18_3 x19_3 = some r) ∧ Aside0 (kq ≤ k2) ∧ Aside0 (Kd.R (Kd.int .u32) 130 w' w.heap.size (fun _ => True) (.slice (some ⟨go5, 0, none⟩) x3_1.length co5) x3_1) ∧ Aside0 (Kd.R (Kd.int .u32) 132 w' w.heap.size (fun k_ => some k_ ≠ (v243 : Value).ownBlock) (.slice (some ⟨go9, 0, none⟩) x4_1.length co9) x4_1) ∧ Aside0 (Kd.R (Kd.int .u32) 132 w' w.heap.size (fun k_ => some k_ ≠ ((.slice (some ⟨go9, 0, none⟩) x4_1.length co9) : Value).ownBlock) v243 x7_2) ∧ Aside0 (Below w.heap.size w w'))
       case atStart => exact ⟨(rd x3_1 0), (rd x3_1 1), (rd x3_1 2), (rd x3_1 3), (rd x3_1 4), (rd x3_1 5), (rd x3_1 6), (rd x3_1 7), (0), vq_, vq_, vq_, vq_, vq_, vq_, vq_, vq_, vq_, H', ⟨Nat.le_refl _⟩, ⟨by (try simp only [hl3_1]); (try simp only [hl4_1]); refine mv_ ?_; exact HO_3.out⟩, ⟨by (try simp only [hl3_1]); (try simp only [hl4_1]); refine mv_ ?_; exact HO_4.out⟩, ⟨by (try simp only [hl3_1]); (try simp only [hl4_1]); refine mv_ ?_; exact HO_7.out⟩, ⟨bl_⟩⟩
       case round =>
        clear H'
        (try clear c2); (try clear p2); (try clear q2); (try clear hx2); (try clear qi2); (try clear c4); (try clear c5); (try clear c6); (try clear p6); (try clear q6); (try clear hx6); (try clear hf6); (try clear c7); (try clear c8); (try clear hx24); (try clear c25); (try clear c25b0); (try clear c25b7); (try clear p25); (try clear q25); (try clear hx25); (try clear qi25); (try clear p26); (try clear q26); (try clear hx26); (try clear qi26); (try clear c49); (try clear c51); (try clear c52); (try clear c56); (try clear c57); (try clear c61); (try clear c62); (try clear c64); (try clear p64); (try clear c65); (try clear c66); (try clear c67); (try clear p68); (try clear q68); (try clear hx68); (try clear hf68); (try clear c74); (try clear c74b0); (try clear c74b1); (try clear c75); (try clear c75b0); (try clear c75b1); (try clear c75b7); (try clear c75b8); (try clear c76); (try clear c76b0); (try clear c76b1); (try clear c76b7); (try clear c76b8); (try clear c77); (try clear c77b0); (try clear c77b1); (try clear c77b7); (try clear c77b8); (try clear c78); (try clear c78b0); (try clear c78b1); (try clear c78b7); (try clear c78b8); (try clear c79); (try clear c79b0); (try clear c79b1); (try clear c79b7); (try clear c79b8); (try clear c80); (try clear c80b0); (try clear c80b1); (try clear c80b7); (try clear c80b8); (try clear c81); (try clear c81b0); (try clear c81b1); (try clear c81b7); (try clear c81b8); (try clear c82); (try clear c82b0); (try clear c82b1); (try clear c82b7); (try clear c82b8); (try clear hx246_0); (try clear hx248_0); (try clear hx250_0); (try clear hx251_0); (try clear hx253_0); (try clear hx255_0); (try clear hx256_0); (try clear hx257_0); (try clear hx259_0); (try clear hx260_0); (try clear hx261_0); (try clear hx262_0); (try clear hx263_0); (try clear hx264_0); (try clear hx265_0); (try clear hx266_0); (try clear hx68_0); (try clear p256); (try clear p257); (try clear p259); (try clear p260); (try clear p261); (try clear p262); (try clear p263); (try clear p264); (try clear p265); (try clear p266); (try clear p68); (try clear q256); (try clear q257); (try clear q259); (try clear q260); (try clear q261); (try clear q262); (try clear q263); (try clear q264); (try clear q265); (try clear q266); (try clear q68)
        obtain ⟨x11_3, x12_3, x13_3, x14_3, x15_3, x16_3, x17_3, x18_3, x19_3, rfl, rfl, rfl, rfl, rfl, rfl, rfl, rfl, rfl, HA, HK3, HO_3, HO_4, HO_7, HB⟩ := hrel
        cases gk with
        | zero => exact absurd HA.out (by simp [palaverref02_Sum.l2])
        | succ k3 =>
         have H := HA.out
         clear HA
         simp only [palaverref02_Sum.l2] at H
         by_cases c84 : x19_3 < 64
         ·refine Nonempty.elim ?gc84p id
          letI i_ : type_of% ?gc84p := ⟨by
          rw [if_pos c84] at H
          have c84b0 : decide (x19_3 < 64) = true := decide_eq_true c84
          (try (have c84b7 := c84b0; simp only [hl3_1, hl4_1] at c84b7))
          clear c84
          revert H; refine oa_ fun t267 A85 => oa_ fun t268 A86 => oa_ fun t269 A87 H => ?_
          by_cases c88 : x4_1.length = 64
          ·rw [if_pos c88] at H
           have c88b0 := eq_true c88
           have c88b1 : decide (x4_1.length = 64) = true := decide_eq_true c88
           clear c88
           revert H; refine nd_ fun c89 c89b0 => nd_ fun c90 c90b0 => ne_ fun c91 c91b0 c91b1 => nd_ fun c92 c92b0 => oa_ fun t272 A93 => oa_ fun t273 A94 => oa_ fun t274 A95 H => ?_
           (try (have c89b7 := c89b0; simp only [hl3_1, hl4_1] at c89b7))
           (try (have c90b7 := c90b0; simp only [hl3_1, hl4_1] at c90b7))
           (try (have c92b7 := c92b0; simp only [hl3_1, hl4_1] at c92b7))
           clear c89 c90 c91 c92
           have H' := Aside0.mk H
           clear H
           try go_wp2_with (first | ((with_reducible refine gate_callee (f := 94) rfl ?_); refine gL_ 155 Tryz.func94 #[.int .u32 x15_3, .int .u32 6] ?_; (with_reducible refine (palaverref02_turn.calls x15_3 6 t267 _ A85.out).mono ?_); rintro e w' ⟨rfl, ⟨nd, rfl⟩⟩; refine ⟨_, rfl, ?_⟩) | ((with_reducible refine gate_callee (f := 94) rfl ?_); refine gL_ 157 Tryz.func94 #[.int .u32 x15_3, .int .u32 11] ?_; (with_reducible refine (palaverref02_turn.calls x15_3 11 t268 _ A86.out).mono ?_); rintro e w' ⟨rfl, ⟨nd, rfl⟩⟩; refine ⟨_, rfl, ?_⟩) | ((with_reducible refine gate_callee (f := 94) rfl ?_); refine gL_ 160 Tryz.func94 #[.int .u32 x15_3, .int .u32 25] ?_; (with_reducible refine (palaverref02_turn.calls x15_3 25 t269 _ A87.out).mono ?_); rintro e w' ⟨rfl, ⟨nd, rfl⟩⟩; refine ⟨_, rfl, ?_⟩))
           (try (rw [drewN_self wr]; generalize hq_ : World.drewN wr _ = wr; have n0_ : Aside0 (Kd.R (Kd.int .u32) 130 wr w.heap.size (fun _ => True) (.slice (some ⟨go5, 0, none⟩) x3_1.length co5) x3_1) := ⟨by rw [← hq_]; exact (mv_ HO_3.out)⟩; have n1_ : Aside0 (Kd.R (Kd.int .u32) 132 wr w.heap.size (fun k_ => some k_ ≠ (v243 : Value).ownBlock) (.slice (some ⟨go9, 0, none⟩) x4_1.length co9) x4_1) := ⟨by rw [← hq_]; exact (mv_ HO_4.out)⟩; have n2_ : Aside0 (Kd.R (Kd.int .u32) 132 wr w.heap.size (fun k_ => some k_ ≠ (.slice (some ⟨go9, 0, none⟩) x4_1.length co9 : Value).ownBlock) v243 x7_2) := ⟨by rw [← hq_]; exact (mv_ HO_7.out)⟩; have n3_ : Aside0 (Below w.heap.size w wr) := ⟨by rw [← hq_]; exact bl_⟩; clear HO_3 HO_4 HO_7 HB hq_; have HO_3 := n0_; have HO_4 := n1_; have HO_7 := n2_; have HB := n3_; clear n0_ n1_ n2_ n3_))
           replace HB := Aside0.mk (below_drew1 HB.out)
           replace HO_7 := Aside0.mk (Kd.R_drew HO_7.out)
           replace HO_4 := Aside0.mk (Kd.R_drew HO_4.out)
           replace HO_3 := Aside0.mk (Kd.R_drew HO_3.out)
           have qa270 : ((x19_3 : Int) < (64 : Int)) = True := qa_ x4_1 64
           have p270 : 0 ≤ (x19_3 : Int) := ad_
           have q270 : x19_3 < (x4_1.length : Int) := ad_
           obtain ⟨ad270, e270, hx270_0⟩ := Kd.at_int (Kd.R_reads' HO_4.out).2.2 x19_3 p270 q270
           obtain rfl : (⟨go9, 0, none⟩ : Addr) = ad270 := (by injection e270)
           (first | simp only [add_plain] at hx270_0 | simp only [add_at] at hx270_0 | simp only [Addr.add, Nat.zero_add] at hx270_0 | skip)
           replace p270 := eq_true p270
           replace q270 := eq_true q270
           obtain ⟨Ao97, co97, eo97⟩ := Kd.R_slice HO_7.out
           (first | subst eo97 | (injection eo97 with f1_ f2_ f3_; have f4_ := f1_.symm; have f5_ := f3_.symm; clear f1_ f2_ f3_; subst f4_; subst f5_))
           have qa271 : ((x19_3 : Int) < (64 : Int)) = True := qa_ x7_2 64
           have p271 : 0 ≤ (x19_3 : Int) := ad_
           have q271 : x19_3 < (x7_2.length : Int) := ad_
           obtain ⟨ad271, e271, hx271_0⟩ := Kd.at_int (Kd.R_reads' HO_7.out).2.2 x19_3 p271 q271
           cases e271
           replace p271 := eq_true p271
           replace q271 := eq_true q271
           refine start_ (n := 14) (S := fun w' => w'.cell? ⟨go9, (x19_3).toNat, none⟩ = some (.int .u32 (rd x4_1 x19_3)) ∧ w'.cell? (ad271.add (x19_3).toNat) = some (.int .u32 (rd x7_2 x19_3))) (ds := []) #[false, false, false, false, false, false, false, false, false, false, false, false, false, false] (by kernel_rfl) rfl rfl ⟨hx270_0, hx271_0⟩ (fun hHeld => ?_); refine with_tabW palaverref02_Sum.tab22 palaverref02_Sum.bits22 (fun HT_ HW_ => ?_)
           generalize wr.drew = w96 at HO_3 HO_4 HO_7 HB hx270_0 hx271_0 hHeld ⊢
           refine runs_ [(0, some 170), (1, some 171), (2, some 172), (3, some 173), (4, some 174), (5, some 175), (6, some 176), (9, some 179), (10, some 180)] ?_
           iterate 9 (refine pL_ ?_)
           refine runsE_ ?_
           refine take_ (i := 7) (N := some 177) (v := ?_) (a' := ?_) #[true, true, true, true, true, true, true, true, false, true, true, false, false, false] rfl rfl (take_ofW HT_.out HW_.out (by kernel_rfl)) (fun _ _ _ h => h) (Or.inl ⟨by rfl, ?_⟩) hHeld ?_ ?_
           rotate_left
           ·rintro w' ⟨s0, s1⟩
            go_simp
            with_reducible rfl
           rotate_left
           ·simp only [pr_]
            rfl
           refine pure_ (i := 8) (N := some 178) (v := ?_) (a' := ?_) #[true, true, true, true, true, true, true, true, true, true, true, false, false, false] rfl rfl (any_of HT_.out (by kernel_rfl)) (fun _ _ _ h => h) (Or.inl ⟨by rfl, ?_⟩) ?_ ?_
           rotate_left
           ·intro w'
            go_simp
            with_reducible rfl
           rotate_left
           ·simp only [pr_]
            rfl
           refine take_ (i := 11) (N := some 181) (v := ?_) (a' := ?_) #[true, true, true, true, true, true, true, true, true, true, true, true, false, false] rfl rfl (take_ofW HT_.out HW_.out (by kernel_rfl)) (fun _ _ _ h => h) (Or.inl ⟨by rfl, ?_⟩) hHeld ?_ ?_
           rotate_left
           ·rintro w' ⟨s0, s1⟩
            go_simp
            with_reducible rfl
           rotate_left
           ·simp only [pr_]
            rfl
           refine runs_ [(12, some 182), (13, some 22)] ?_
           iterate 2 (refine pL_ ?_)
           refine runsE_ ?_
           refine done_ (done_of HT_.out (by kernel_rfl)) ?_
           try go_wp2_with (first | ((with_reducible refine gate_callee (f := 94) rfl ?_); refine gL_ 184 Tryz.func94 #[.int .u32 x11_3, .int .u32 2] ?_; (with_reducible refine (palaverref02_turn.calls x11_3 2 t272 _ A93.out).mono ?_); rintro e w' ⟨rfl, ⟨nd, rfl⟩⟩; refine ⟨_, rfl, ?_⟩) | ((with_reducible refine gate_callee (f := 94) rfl ?_); refine gL_ 186 Tryz.func94 #[.int .u32 x11_3, .int .u32 13] ?_; (with_reducible refine (palaverref02_turn.calls x11_3 13 t273 _ A94.out).mono ?_); rintro e w' ⟨rfl, ⟨nd, rfl⟩⟩; refine ⟨_, rfl, ?_⟩) | ((with_reducible refine gate_callee (f := 94) rfl ?_); refine gL_ 189 Tryz.func94 #[.int .u32 x11_3, .int .u32 22] ?_; (with_reducible refine (palaverref02_turn.calls x11_3 22 t274 _ A95.out).mono ?_); rintro e w' ⟨rfl, ⟨nd, rfl⟩⟩; refine ⟨_, rfl, ?_⟩))
           go_roundg k3
           case measure => have := HK1.out; have := HK2.out; have := HK3.out; omega
           case rel => exact ⟨((((((x18_3 + (Go.bits .xor .u32 (Go.bits .xor .u32 t267 t268) t269)) + (Go.bits .xor .u32 (Go.bits .and .u32 x15_3 x16_3) (Go.bits .and .u32 (Go.bits .xor .u32 4294967295 x15_3) x17_3))) + (rd x4_1 x19_3)) + (rd x7_2 x19_3)) + ((Go.bits .xor .u32 (Go.bits .xor .u32 t272 t273) t274) + (Go.bits .xor .u32 (Go.bits .xor .u32 (Go.bits .and .u32 x11_3 x12_3) (Go.bits .and .u32 x11_3 x13_3)) (Go.bits .and .u32 x12_3 x13_3)))) % 4294967296), (x11_3), (x12_3), (x13_3), ((x14_3 + ((((x18_3 + (Go.bits .xor .u32 (Go.bits .xor .u32 t267 t268) t269)) + (Go.bits .xor .u32 (Go.bits .and .u32 x15_3 x16_3) (Go.bits .and .u32 (Go.bits .xor .u32 4294967295 x15_3) x17_3))) + (rd x4_1 x19_3)) + (rd x7_2 x19_3))) % 4294967296), (x15_3), (x16_3), (x17_3), (wrap64 (x19_3 + 1)), vq_, vq_, vq_, vq_, vq_, vq_, vq_, vq_, vq_, H', ⟨by have := HK1.out; have := HK2.out; have := HK3.out; omega⟩, ⟨by (try simp only [hl3_1]); (try simp only [hl4_1]); refine mv_ ?_; exact HO_3.out⟩, ⟨by (try simp only [hl3_1]); (try simp only [hl4_1]); refine mv_ ?_; exact HO_4.out⟩, ⟨by (try simp only [hl3_1]); (try simp only [hl4_1]); refine mv_ ?_; exact HO_7.out⟩, ⟨bl_⟩⟩
          ·rw [if_neg c88] at H
           exact absurd H (by simp)
          ⟩
          exact inferInstanceAs _
         refine Nonempty.elim ?gc84n id
         letI i_ : type_of% ?gc84n := ⟨by
         rw [if_neg c84] at H
         have c84b0 : decide (x19_3 < 64) = false := decide_eq_false c84
         (try (have c84b7 := c84b0; simp only [hl3_1, hl4_1] at c84b7))
         clear c84
         revert H; refine oy_ fun y275 Ny275 H => ?_
         by_cases c98 : y275.length = 8
         ·rw [if_pos c98] at H
          have c98b0 := eq_true c98
          have c98b1 : decide (y275.length = 8) = true := decide_eq_true c98
          clear c98
          revert H; refine nd_ fun c99 c99b0 H => ?_
          have c99b1 : decide (0 < y275.length) = true := decide_eq_true (by omega)
          (try (have c99b7 := c99b0; simp only [hl3_1, hl4_1] at c99b7))
          (try (have c99b8 := c99b1; simp only [hl3_1, hl4_1] at c99b8))
          clear c99
          generalize e_ : ([x11_3, x12_3, x13_3, x14_3, x15_3, x16_3, x17_3, x18_3] : List Int) = y278 at H
          have Ny278 := Aside0.mk e_.symm
          clear e_
          have H' := Aside0.mk H
          clear H
          go_wp2_with (first | ((with_reducible refine gate_dst (N := 26) rfl ?_); refine R_arr (Value.int .u32) (fun _ => rfl) _ 130 ?hg (N := 26) ?hd (List.replicate 8 0) ?hr (Below.refl _ _) (Nat.le_refl _) (by decide) ?_; (case hd => rfl); (case hg => rfl); (case hr => exact gr_); intro v276 w101 ho102 hb hg_ hnew_; clear hg_ hnew_; (first | rw [← Ny275.out] at ho102 | (simp only [Int.reduceToNat] at ho102; rw [← Ny275.out] at ho102)); have HO277 := Aside0.mk (Kd.R_lower (Kd.R_new' ho102 (Kd.R_lt (mv_ HO_3.out))) (below_size bl_)); replace HB := Aside0.mk (below_step bl_ hb); replace HO_7 := Aside0.mk (Kd.R_below (mv_ HO_7.out) hb); replace HO_4 := Aside0.mk (Kd.R_below (mv_ HO_4.out) hb); replace HO_3 := Aside0.mk (Kd.R_elder' (mv_ HO_3.out) (Kd.R_base ho102) hb); clear hb ho102; have qa100 : ((0 : Int) < (8 : Int)) = True := qa_ y275 8; have p100 : 0 ≤ (0 : Int) := (by omega); have q100 : (0 : Int) < ((y275.length : Int) : Int) := ad_; have qi100 : (0 < y275.length) = True := eq_true (by omega); obtain ⟨go100, co100, eo100, gb100, gl100, cl100, HG100⟩ := Kd.R_form HO277.out (by omega); (first | cases eo100 | (injection eo100 with ea_ en_ ec_; (first | subst ea_ | (injection ea_ with ea_; subst ea_)); subst ec_; clear en_)); have GB100 := Aside0.mk gb100; have GG100 := Aside0.mk HG100; clear gb100 gl100 HG100; obtain ⟨hx100_0, hf100_0⟩ := Kd.R_celln 0 HO277.out (0 : Int) p100 q100; (try rw [show ((0 : Int)).toNat = 0 from rfl] at hx100_0); (try simp only [Nat.reduceMul, Nat.zero_mul, Nat.zero_add, Nat.reduceAdd] at hx100_0); (try rw [show ((0 : Int)).toNat = 0 from rfl] at hf100_0); (try simp only [Nat.reduceMul, Nat.zero_mul, Nat.zero_add, Nat.reduceAdd] at hf100_0); replace p100 := eq_true p100; replace q100 := eq_true q100; have n_ := Aside0.mk (Kd.R_mono (ok' := (fun k_ => some k_ ≠ (.slice (some ⟨go5, 0, none⟩) x3_1.length co5 : Value).ownBlock)) HO277.out (fun k_ hk => hk.2)); clear HO277; have HO277 := n_; clear n_; have HP103 := R_whole (ys := [x11_3, x12_3, x13_3, x14_3, x15_3, x16_3, x17_3, x18_3]) HO277.out (by have e_ : y275.length = 8 := ad_; have e2_ := (Kd.R_reads' HO277.out).1; first | (rw [e_]; rfl) | (simp only [List.length_cons, List.length_nil]; omega))) | ((with_reducible refine gate_store (t := 130) (p := 26) rfl ?_); refine store_event (t := 130) (p := 26) (v := ?vo_w104) (w1 := (w101.setCells go100 0 (encs (Value.int .u32) [x11_3, x12_3, x13_3, x14_3, x15_3, x16_3, x17_3, x18_3]))) ?hg ?ho ?hn ?hr ?_; (case ho => rfl); (case hg => rfl); (case hn => rfl); (case hr => exact whole_run (ys := [x11_3, x12_3, x13_3, x14_3, x15_3, x16_3, x17_3, x18_3]) rfl rfl rfl (by kernel_rfl) HO277.out (by have e_ : y275.length = 8 := ad_; have e2_ := (Kd.R_reads' HO277.out).1; first | (rw [e_]; rfl) | (simp only [List.length_cons, List.length_nil]; omega))); intro w104 hw; have hg : w101.grownBy w104 (some go100) := (by rw [hw]; exact HP103.2); have hp_ : Kd.R (Kd.int .u32) 130 w104 w.heap.size (fun k_ => some k_ ≠ (.slice (some ⟨go5, 0, none⟩) x3_1.length co5 : Value).ownBlock) (.slice (some ⟨go100, 0, none⟩) y275.length co100) y278 := (by rw [hw, Ny278.out]; exact HP103.1); clear HP103; replace HB := Aside0.mk ((Below.grown HB.out hg (below_size HB.out) (fun k_ e_ => (Option.some.inj e_) ▸ GB100.out) : Below w.heap.size w w104)); replace HO_7 := Aside0.mk (Kd.R_over' (v := (.slice (some ⟨go100, 0, none⟩) y275.length co100)) (mv_ HO_7.out) (Kd.R_typed HO277.out) (by decide) hg); replace HO_4 := Aside0.mk (Kd.R_over' (v := (.slice (some ⟨go100, 0, none⟩) y275.length co100)) (mv_ HO_4.out) (Kd.R_typed HO277.out) (by decide) hg); replace HO277 := Aside0.mk (hp_); replace HO_3 := Aside0.mk (Kd.R_after (v := (.slice (some ⟨go100, 0, none⟩) y275.length co100)) (v1 := (.slice (some ⟨go100, 0, none⟩) y275.length co100)) (ok := (fun _ => True)) (mv_ HO_3.out) hg (.inl rfl)); clear hg hw hp_))
          go_loopg [27] k3 (fun kq v27 w' => ∃ (x3_4 : List Int) (x27_4 : Int), v27 = .int .i64 x27_4 ∧ Aside0 (palaverref02_Sum.l3 kq x3_4 x4_1 t241 x6_1 y278 x27_4 = some r) ∧ Aside0 (kq ≤ k3) ∧ Aside0 (Kd.R (Kd.int .u32) 130 w' w.heap.size (fun k_ => some k_ ≠ ((.slice (some ⟨go100, 0, none⟩) y275.length co100) : Value).ownBlock) (.slice (some ⟨go5, 0, none⟩) x3_1.length co5) x3_4) ∧ Aside0 (Kd.R (Kd.int .u32) 132 w' w.heap.size (fun _ => True) (.slice (some ⟨go9, 0, none⟩) x4_1.length co9) x4_1) ∧ Aside0 (Kd.R (Kd.int .u32) 130 w' w.heap.size (fun k_ => some k_ ≠ ((.slice (some ⟨go5, 0, none⟩) x3_1.length co5) : Value).ownBlock) (.slice (some ⟨go100, 0, none⟩) y275.length co100) y278) ∧ Aside0 (Below w.heap.size w w'))
          case atStart => exact ⟨(x3_1), (0), vq_, H', ⟨Nat.le_refl _⟩, ⟨by (try simp only [hl3_1]); (try simp only [hl4_1]); refine mv_ ?_; exact Kd.R_mono HO_3.out (fun _ hk => hk.2)⟩, ⟨by (try simp only [hl3_1]); (try simp only [hl4_1]); refine mv_ ?_; exact Kd.R_mono HO_4.out (fun _ hk => trivial)⟩, ⟨by (try simp only [hl3_1]); (try simp only [hl4_1]); refine mv_ ?_; exact HO277.out⟩, ⟨bl_⟩⟩
          case round =>
           clear H'
           (try clear p1); (try clear q1); (try clear hx1); (try clear qi1); (try clear hf1); (try clear c2); (try clear p2); (try clear q2); (try clear hx2); (try clear qi2); (try clear c4); (try clear c5); (try clear c6); (try clear p6); (try clear q6); (try clear hx6); (try clear hf6); (try clear c7); (try clear c8); (try clear c9); (try clear p10); (try clear q10); (try clear hx10); (try clear qi10); (try clear hf10); (try clear hx24); (try clear c25); (try clear c25b0); (try clear c25b7); (try clear p25); (try clear q25); (try clear hx25); (try clear qi25); (try clear p26); (try clear q26); (try clear hx26); (try clear qi26); (try clear p27); (try clear q27); (try clear hx27); (try clear c49); (try clear c51); (try clear c52); (try clear c56); (try clear c57); (try clear c61); (try clear c62); (try clear c64); (try clear p64); (try clear c65); (try clear c66); (try clear c67); (try clear p68); (try clear q68); (try clear hx68); (try clear hf68); (try clear c74); (try clear c74b0); (try clear c74b1); (try clear c75); (try clear c75b0); (try clear c75b1); (try clear c75b7); (try clear c75b8); (try clear c76); (try clear c76b0); (try clear c76b1); (try clear c76b7); (try clear c76b8); (try clear c77); (try clear c77b0); (try clear c77b1); (try clear c77b7); (try clear c77b8); (try clear c78); (try clear c78b0); (try clear c78b1); (try clear c78b7); (try clear c78b8); (try clear c79); (try clear c79b0); (try clear c79b1); (try clear c79b7); (try clear c79b8); (try clear c80); (try clear c80b0); (try clear c80b1); (try clear c80b7); (try clear c80b8); (try clear c81); (try clear c81b0); (try clear c81b1); (try clear c81b7); (try clear c81b8); (try clear c82); (try clear c82b0); (try clear c82b1); (try clear c82b7); (try clear c82b8); (try clear c84); (try clear c84b0); (try clear c84b7); (try clear c88); (try clear c88b0); (try clear c88b1); (try clear c89); (try clear c89b0); (try clear c89b7); (try clear c90); (try clear c90b0); (try clear c90b7); (try clear c91); (try clear c91b0); (try clear c91b1); (try clear c92); (try clear c92b0); (try clear c92b7); (try clear c94); (try clear c98); (try clear c98b0); (try clear c98b1); (try clear c99); (try clear c99b0); (try clear c99b1); (try clear c99b7); (try clear c99b8); (try clear p100); (try clear q100); (try clear hx100); (try clear qi100); (try clear hf100); (try clear hx100_0); (try clear hx246_0); (try clear hx248_0); (try clear hx250_0); (try clear hx251_0); (try clear hx253_0); (try clear hx255_0); (try clear hx256_0); (try clear hx257_0); (try clear hx259_0); (try clear hx260_0); (try clear hx261_0); (try clear hx262_0); (try clear hx263_0); (try clear hx264_0); (try clear hx265_0); (try clear hx266_0); (try clear hx270_0); (try clear hx271_0); (try clear hx68_0); (try clear p100); (try clear p2); (try clear p25); (try clear p256); (try clear p257); (try clear p259); (try clear p26); (try clear p260); (try clear p261); (try clear p262); (try clear p263); (try clear p264); (try clear p265); (try clear p266); (try clear p270); (try clear p271); (try clear p6); (try clear p64); (try clear p68); (try clear q100); (try clear q2); (try clear q25); (try clear q256); (try clear q257); (try clear q259); (try clear q26); (try clear q260); (try clear q261); (try clear q262); (try clear q263); (try clear q264); (try clear q265); (try clear q266); (try clear q270); (try clear q271); (try clear q6); (try clear q68)
           obtain ⟨x3_4, x27_4, rfl, HA, HK4, HO_3, HO_4, HO_26, HB⟩ := hrel
           have hl3_4 := (Kd.R_reads' HO_3.out).1
           rw [hl3_4] at HO_3
           (try simp only [hl3_4])
           (try simp only [hl3_4] at HO_4)
           (try simp only [hl3_4] at HO_26)
           have hl26_4 := (Kd.R_reads' HO_26.out).1
           rw [hl26_4] at HO_26
           (try simp only [hl26_4])
           (try simp only [hl26_4] at HO_3)
           (try simp only [hl26_4] at HO_4)
           cases gk with
           | zero => exact absurd HA.out (by simp [palaverref02_Sum.l3])
           | succ k4 =>
            have H := HA.out
            clear HA
            simp only [palaverref02_Sum.l3] at H
            by_cases c105 : x27_4 < 8
            ·refine Nonempty.elim ?gc105p id
             letI i_ : type_of% ?gc105p := ⟨by
             rw [if_pos c105] at H
             have c105b0 : decide (x27_4 < 8) = true := decide_eq_true c105
             (try (have c105b7 := c105b0; simp only [hl3_1, hl4_1, hl3_4, hl26_4] at c105b7))
             clear c105
             by_cases c106 : x3_4.length = 8
             ·rw [if_pos c106] at H
              have c106b0 := eq_true c106
              have c106b1 : decide (x3_4.length = 8) = true := decide_eq_true c106
              clear c106
              revert H; refine nd_ fun c107 c107b0 => nd_ fun c108 c108b0 => ne_ fun c109 c109b0 c109b1 => nd_ fun c110 c110b0 H => ?_
              (try (have c107b7 := c107b0; simp only [hl3_1, hl4_1, hl3_4, hl26_4] at c107b7))
              (try (have c108b7 := c108b0; simp only [hl3_1, hl4_1, hl3_4, hl26_4] at c108b7))
              (try (have c110b7 := c110b0; simp only [hl3_1, hl4_1, hl3_4, hl26_4] at c110b7))
              clear c107 c108 c109 c110
              generalize e_ : (x3_4.set (x27_4 : Int).toNat (((rd x3_4 x27_4) + (rd y278 x27_4)) % 4294967296) : List Int) = y281 at H
              have Ny281 := Aside0.mk e_.symm
              clear e_
              have H' := Aside0.mk H
              clear H
              try go_wp2
              replace HB := Aside0.mk (below_drew1 HB.out)
              replace HO_26 := Aside0.mk (Kd.R_drew HO_26.out)
              replace HO_4 := Aside0.mk (Kd.R_drew HO_4.out)
              replace HO_3 := Aside0.mk (Kd.R_drew HO_3.out)
              have qa279 : ((x27_4 : Int) < (8 : Int)) = True := qa_ x3_4 8
              have p279 : 0 ≤ (x27_4 : Int) := ad_
              have q279 : x27_4 < (x3_4.length : Int) := ad_
              obtain ⟨ad279, e279, hx279_0⟩ := Kd.at_int (Kd.R_reads' HO_3.out).2.2 x27_4 p279 q279
              obtain rfl : (⟨go5, 0, none⟩ : Addr) = ad279 := (by injection e279)
              (first | simp only [add_plain] at hx279_0 | simp only [add_at] at hx279_0 | simp only [Addr.add, Nat.zero_add] at hx279_0 | skip)
              replace p279 := eq_true p279
              replace q279 := eq_true q279
              have qa280 : ((x27_4 : Int) < (8 : Int)) = True := qa_ y278 8
              have p280 : 0 ≤ (x27_4 : Int) := ad_
              have q280 : x27_4 < (y278.length : Int) := ad_
              obtain ⟨ad280, e280, hx280_0⟩ := Kd.at_int (Kd.R_reads' HO_26.out).2.2 x27_4 p280 q280
              obtain rfl : (⟨go100, 0, none⟩ : Addr) = ad280 := (by injection e280)
              (first | simp only [add_plain] at hx280_0 | simp only [add_at] at hx280_0 | simp only [Addr.add, Nat.zero_add] at hx280_0 | skip)
              replace p280 := eq_true p280
              replace q280 := eq_true q280
              have qa111 : ((x27_4 : Int) < (8 : Int)) = True := qa_ x3_4 8
              have p111 : 0 ≤ (x27_4 : Int) := ad_
              have q111 : (x27_4 : Int) < ((x3_4.length : Int) : Int) := ad_
              obtain ⟨hx111_0, hf111_0⟩ := Kd.R_celln 0 HO_3.out (x27_4 : Int) p111 q111
              replace p111 := eq_true p111
              replace q111 := eq_true q111
              have HP113 := Kd.R_putn HO_3.out (x27_4 : Int) (((rd x3_4 x27_4) + (rd y278 x27_4)) % 4294967296)
              rw [← Ny281.out] at HP113
              have HQ113 := Aside0.mk HP113
              clear HP113
              refine start_ (n := 10) (S := fun w' => w'.cell? ⟨go5, (x27_4).toNat, none⟩ = some (.int .u32 (rd x3_4 x27_4)) ∧ w'.cell? ⟨go100, (x27_4).toNat, none⟩ = some (.int .u32 (rd y278 x27_4))) (ds := [9]) #[false, false, false, false, false, false, false, false, false, false] (by kernel_rfl) rfl rfl ⟨hx279_0, hx280_0⟩ (fun hHeld => ?_); refine with_tabW palaverref02_Sum.tab38 palaverref02_Sum.bits38 (fun HT_ HW_ => ?_)
              generalize wr.drew = w112 at HO_3 HO_4 HO_26 HB HQ113 hf111_0 hx111_0 hx279_0 hx280_0 hHeld ⊢
              refine runs_ [(0, some 230), (1, some 231), (2, some 232), (4, some 234), (5, some 235)] ?_
              iterate 5 (refine pL_ ?_)
              refine runsE_ ?_
              refine runs_ [(3, some 233), (6, some 236)] ?_
              iterate 2 (refine takeL_ (v := ?_) (a' := ?_) rfl rfl (take_ofW HT_.out HW_.out (by kernel_rfl)) (Or.inl ⟨by rfl, ?_⟩) hHeld ?_ ?_ (fun _ _ _ h => h); rotate_left; (rintro w' ⟨s0, s1⟩; go_simp; with_reducible rfl); rotate_left; (simp only [pr_]; rfl))
              refine runsE_ ?_
              refine runs_ [(7, some 237), (8, some 238)] ?_
              iterate 2 (refine pL_ ?_)
              refine runsE_ ?_
              refine last_ (i := 9) (N := none) #[true, true, true, true, true, true, true, true, true, true] rfl rfl (one_of HT_.out (by kernel_rfl)) (by decide) (fun K hK => ?_)
              refine skip_set ⟨go5, (x27_4 : Int).toNat, none⟩ (.int .u32 (((rd x3_4 x27_4) + (rd y278 x27_4)) % 4294967296)) (by rfl) rfl ?_ ?_
              ·first | (go_simp; done) | (go_simp; rfl) | (go_simp; (try simp only [IntKind.wrap_u32, IntKind.wrap_u8]); refine congrArg (fun v_ => World.setCell _ _ (Value.int _ v_)) ?_; omega)
              refine hK.out _ _ ?_
              clear hK K
              refine done_ (done_of HT_.out (by kernel_rfl)) ?_
              try go_wp2
              (try simp only [← hl3_4, ← hl26_4])
              go_roundg k4
              case measure => have := HK1.out; have := HK2.out; have := HK3.out; have := HK4.out; omega
              case rel => exact ⟨(y281), (wrap64 (x27_4 + 1)), vq_, H', ⟨by have := HK1.out; have := HK2.out; have := HK3.out; have := HK4.out; omega⟩, ⟨by (try simp only [hl3_1]); (try simp only [hl4_1]); (try simp only [hl3_4]); (try simp only [hl26_4]); refine mv_ ?_; exact HQ113.out⟩, ⟨by (try simp only [hl3_1]); (try simp only [hl4_1]); (try simp only [hl3_4]); (try simp only [hl26_4]); refine mv_ ?_; exact Kd.R_mono (Kd.R_far (p := ⟨go5, (x27_4 : Int).toNat, none⟩) (Kd.R_types HO_4.out (Kd.R_typed HO_3.out _ rfl).choose_spec (by decide)) (fun _ hk => hk.2) (.int .u32 (((rd x3_4 x27_4) + (rd y278 x27_4)) % 4294967296))) (fun _ hk => trivial)⟩, ⟨by (try simp only [hl3_1]); (try simp only [hl4_1]); (try simp only [hl3_4]); (try simp only [hl26_4]); refine mv_ ?_; exact Kd.R_mono (Kd.R_far (p := ⟨go5, (x27_4 : Int).toNat, none⟩) (Kd.R_mono HO_26.out (fun k_ hk => (⟨hk, fun e_ => hk (by rw [e_]; rfl)⟩ : _ ∧ k_ ≠ go5))) (fun _ hk => hk.2) (.int .u32 (((rd x3_4 x27_4) + (rd y278 x27_4)) % 4294967296))) (fun _ hk => hk.1)⟩, ⟨bs_ GB5.out⟩⟩
             ·rw [if_neg c106] at H
              exact absurd H (by simp)
             ⟩
             exact inferInstanceAs _
            rw [if_neg c105] at H
            have c105b0 : decide (x27_4 < 8) = false := decide_eq_false c105
            (try (have c105b7 := c105b0; simp only [hl3_1, hl4_1, hl3_4, hl26_4] at c105b7))
            clear c105
            have H' := Aside0.mk H
            clear H
            go_wp2
            (try simp only [← hl3_1, ← hl4_1, ← hl3_4, ← hl26_4])
            go_roundg k4
            case measure => have := HK1.out; have := HK2.out; have := HK3.out; have := HK4.out; omega
            case rel => exact ⟨(x3_4), (x4_1), (wrap64 (x6_1 + 64)), vq_, H', ⟨by have := HK1.out; have := HK2.out; have := HK3.out; have := HK4.out; omega⟩, ⟨by (try simp only [hl3_1]); (try simp only [hl4_1]); (try simp only [hl3_4]); (try simp only [hl26_4]); refine mv_ ?_; exact Kd.R_mono HO_3.out (fun _ hk => trivial)⟩, ⟨by (try simp only [hl3_1]); (try simp only [hl4_1]); (try simp only [hl3_4]); (try simp only [hl26_4]); refine mv_ ?_; exact HO_4.out⟩, ⟨bl_⟩⟩
         ·rw [if_neg c98] at H
          exact absurd H (by simp)
         ⟩
         exact inferInstanceAs _
      ·rw [if_neg c74] at H
       exact absurd H (by simp)
      ⟩
      exact inferInstanceAs _
    ⟩
    exact inferInstanceAs _
   refine Nonempty.elim ?gc22n id
   letI i_ : type_of% ?gc22n := ⟨by
   rw [if_neg c22] at H
   have c22b0 : decide (x6_1 < (t241.size : Int)) = false := decide_eq_false c22
   (try (have c22b7 := c22b0; simp only [hl3_1, hl4_1] at c22b7))
   clear c22
   have H' := Aside0.mk H
   clear H
   go_wp2
   go_loopg [28, 29] k1 (fun kq v28 v29 w' => ∃ (x28_2 : List Int) (x29_2 : Int), v29 = .int .i64 x29_2 ∧ Aside0 (palaverref02_Sum.l4 kq x3_1 x28_2 x29_2 = some r) ∧ Aside0 (kq ≤ k1) ∧ Aside0 (Kd.R (Kd.int .u32) 130 w' w.heap.size (fun _ => True) (.slice (some ⟨go5, 0, none⟩) x3_1.length co5) x3_1) ∧ Aside0 (Kd.R (Kd.int .u8) 5 w' w.heap.size (fun _ => True) v28 x28_2) ∧ Aside0 (Below w.heap.size w w'))
   case atStart => exact ⟨(([] : List Int)), (0), vq_, H', ⟨Nat.le_refl _⟩, ⟨by (try simp only [hl3_1]); (try simp only [hl4_1]); refine mv_ ?_; exact HO_3.out⟩, ⟨by (try simp only [hl3_1]); (try simp only [hl4_1]); first | exact Kd.R_nil _ _ _ _ _ | exact Kd.N_nil _ _ _ _ _ | exact Kd.V_nil _ _ _ _ _ | exact Kd.Q_nil _ _ _ _ _ | exact Kd.S_nil _ _ _ _ _⟩, ⟨bl_⟩⟩
   case round =>
    clear H'
    (try clear c1); (try clear p1); (try clear q1); (try clear hx1); (try clear qi1); (try clear hf1); (try clear c2); (try clear p2); (try clear q2); (try clear hx2); (try clear qi2); (try clear c4); (try clear c5); (try clear c6); (try clear p6); (try clear q6); (try clear hx6); (try clear hf6); (try clear c7); (try clear c8); (try clear c9); (try clear c10); (try clear p10); (try clear q10); (try clear hx10); (try clear qi10); (try clear hf10); (try clear c11); (try clear p11); (try clear q11); (try clear hx11); (try clear hf11); (try clear c22); (try clear c22b0); (try clear c22b7); (try clear hx24); (try clear c25); (try clear c25b0); (try clear c25b7); (try clear p25); (try clear q25); (try clear hx25); (try clear qi25); (try clear p26); (try clear q26); (try clear hx26); (try clear qi26); (try clear p27); (try clear q27); (try clear hx27); (try clear p28); (try clear q28); (try clear hx28); (try clear c49); (try clear c51); (try clear c52); (try clear c56); (try clear c57); (try clear c61); (try clear c62); (try clear c64); (try clear p64); (try clear c65); (try clear c66); (try clear c67); (try clear p68); (try clear q68); (try clear hx68); (try clear hf68); (try clear c74); (try clear c74b0); (try clear c74b1); (try clear c75); (try clear c75b0); (try clear c75b1); (try clear c75b7); (try clear c75b8); (try clear c76); (try clear c76b0); (try clear c76b1); (try clear c76b7); (try clear c76b8); (try clear c77); (try clear c77b0); (try clear c77b1); (try clear c77b7); (try clear c77b8); (try clear c78); (try clear c78b0); (try clear c78b1); (try clear c78b7); (try clear c78b8); (try clear c79); (try clear c79b0); (try clear c79b1); (try clear c79b7); (try clear c79b8); (try clear c80); (try clear c80b0); (try clear c80b1); (try clear c80b7); (try clear c80b8); (try clear c81); (try clear c81b0); (try clear c81b1); (try clear c81b7); (try clear c81b8); (try clear c82); (try clear c82b0); (try clear c82b1); (try clear c82b7); (try clear c82b8); (try clear c84); (try clear c84b0); (try clear c84b7); (try clear c88); (try clear c88b0); (try clear c88b1); (try clear c89); (try clear c89b0); (try clear c89b7); (try clear c90); (try clear c90b0); (try clear c90b7); (try clear c91); (try clear c91b0); (try clear c91b1); (try clear c92); (try clear c92b0); (try clear c92b7); (try clear c94); (try clear c98); (try clear c98b0); (try clear c98b1); (try clear c99); (try clear c99b0); (try clear c99b1); (try clear c99b7); (try clear c99b8); (try clear p100); (try clear q100); (try clear hx100); (try clear qi100); (try clear hf100); (try clear c105); (try clear c105b0); (try clear c105b7); (try clear c106); (try clear c106b0); (try clear c106b1); (try clear c107); (try clear c107b0); (try clear c107b7); (try clear c108); (try clear c108b0); (try clear c108b7); (try clear c109); (try clear c109b0); (try clear c109b1); (try clear c110); (try clear c110b0); (try clear c110b7); (try clear p111); (try clear q111); (try clear hx111); (try clear hf111); (try clear hx100_0); (try clear hx111_0); (try clear hx246_0); (try clear hx248_0); (try clear hx250_0); (try clear hx251_0); (try clear hx253_0); (try clear hx255_0); (try clear hx256_0); (try clear hx257_0); (try clear hx259_0); (try clear hx260_0); (try clear hx261_0); (try clear hx262_0); (try clear hx263_0); (try clear hx264_0); (try clear hx265_0); (try clear hx266_0); (try clear hx270_0); (try clear hx271_0); (try clear hx279_0); (try clear hx280_0); (try clear hx68_0); (try clear p1); (try clear p10); (try clear p100); (try clear p111); (try clear p2); (try clear p25); (try clear p256); (try clear p257); (try clear p259); (try clear p26); (try clear p260); (try clear p261); (try clear p262); (try clear p263); (try clear p264); (try clear p265); (try clear p266); (try clear p27); (try clear p270); (try clear p271); (try clear p279); (try clear p280); (try clear p6); (try clear p64); (try clear p68); (try clear q1); (try clear q10); (try clear q100); (try clear q111); (try clear q2); (try clear q25); (try clear q256); (try clear q257); (try clear q259); (try clear q26); (try clear q260); (try clear q261); (try clear q262); (try clear q263); (try clear q264); (try clear q265); (try clear q266); (try clear q27); (try clear q270); (try clear q271); (try clear q279); (try clear q280); (try clear q6); (try clear q68)
    obtain ⟨x28_2, x29_2, rfl, HA, HK2, HO_3, HO_28, HB⟩ := hrel
    cases gk with
    | zero => exact absurd HA.out (by simp [palaverref02_Sum.l4])
    | succ k2 =>
     have H := HA.out
     clear HA
     simp only [palaverref02_Sum.l4] at H
     by_cases c114 : x29_2 < 8
     ·refine Nonempty.elim ?gc114p id
      letI i_ : type_of% ?gc114p := ⟨by
      rw [if_pos c114] at H
      have c114b0 : decide (x29_2 < 8) = true := decide_eq_true c114
      (try (have c114b7 := c114b0; simp only [hl3_1, hl4_1] at c114b7))
      clear c114
      by_cases c115 : x3_1.length = 8
      ·rw [if_pos c115] at H
       have c115b0 := eq_true c115
       have c115b1 : decide (x3_1.length = 8) = true := decide_eq_true c115
       clear c115
       revert H; refine nd_ fun c116 c116b0 => nd_ fun c117 c117b0 => oy_ fun y286 Ny286 => nc_ fun c118 H => ?_
       (try (have c116b7 := c116b0; simp only [hl3_1, hl4_1] at c116b7))
       (try (have c117b7 := c117b0; simp only [hl3_1, hl4_1] at c117b7))
       have LMc118 := Aside0.mk c118
       clear c116 c117 c118
       generalize e_ : (x28_2 ++ y286 : List Int) = y289 at H
       have Ny289 := Aside0.mk e_.symm
       clear e_
       have H' := Aside0.mk H
       clear H
       try go_wp2
       replace HB := Aside0.mk (below_drew1 HB.out)
       replace HO_28 := Aside0.mk (Kd.R_drew HO_28.out)
       replace HO_3 := Aside0.mk (Kd.R_drew HO_3.out)
       have qa282 : ((x29_2 : Int) < (8 : Int)) = True := qa_ x3_1 8
       have p282 : 0 ≤ (x29_2 : Int) := ad_
       have q282 : x29_2 < (x3_1.length : Int) := ad_
       obtain ⟨ad282, e282, hx282_0⟩ := Kd.at_int (Kd.R_reads' HO_3.out).2.2 x29_2 p282 q282
       obtain rfl : (⟨go5, 0, none⟩ : Addr) = ad282 := (by injection e282)
       (first | simp only [add_plain] at hx282_0 | simp only [add_at] at hx282_0 | simp only [Addr.add, Nat.zero_add] at hx282_0 | skip)
       replace p282 := eq_true p282
       replace q282 := eq_true q282
       have qa283 : ((x29_2 : Int) < (8 : Int)) = True := qa_ x3_1 8
       have p283 : 0 ≤ (x29_2 : Int) := ad_
       have q283 : x29_2 < (x3_1.length : Int) := ad_
       obtain ⟨ad283, e283, hx283_0⟩ := Kd.at_int (Kd.R_reads' HO_3.out).2.2 x29_2 p283 q283
       obtain rfl : (⟨go5, 0, none⟩ : Addr) = ad283 := (by injection e283)
       (first | simp only [add_plain] at hx283_0 | simp only [add_at] at hx283_0 | simp only [Addr.add, Nat.zero_add] at hx283_0 | skip)
       replace p283 := eq_true p283
       replace q283 := eq_true q283
       have qa284 : ((x29_2 : Int) < (8 : Int)) = True := qa_ x3_1 8
       have p284 : 0 ≤ (x29_2 : Int) := ad_
       have q284 : x29_2 < (x3_1.length : Int) := ad_
       obtain ⟨ad284, e284, hx284_0⟩ := Kd.at_int (Kd.R_reads' HO_3.out).2.2 x29_2 p284 q284
       obtain rfl : (⟨go5, 0, none⟩ : Addr) = ad284 := (by injection e284)
       (first | simp only [add_plain] at hx284_0 | simp only [add_at] at hx284_0 | simp only [Addr.add, Nat.zero_add] at hx284_0 | skip)
       replace p284 := eq_true p284
       replace q284 := eq_true q284
       have qa285 : ((x29_2 : Int) < (8 : Int)) = True := qa_ x3_1 8
       have p285 : 0 ≤ (x29_2 : Int) := ad_
       have q285 : x29_2 < (x3_1.length : Int) := ad_
       obtain ⟨ad285, e285, hx285_0⟩ := Kd.at_int (Kd.R_reads' HO_3.out).2.2 x29_2 p285 q285
       obtain rfl : (⟨go5, 0, none⟩ : Addr) = ad285 := (by injection e285)
       (first | simp only [add_plain] at hx285_0 | simp only [add_at] at hx285_0 | simp only [Addr.add, Nat.zero_add] at hx285_0 | skip)
       replace p285 := eq_true p285
       replace q285 := eq_true q285
       refine start_ (n := 23) (S := fun w' => w'.cell? ⟨go5, (x29_2).toNat, none⟩ = some (.int .u32 (rd x3_1 x29_2)) ∧ w'.cell? ⟨go5, (x29_2).toNat, none⟩ = some (.int .u32 (rd x3_1 x29_2)) ∧ w'.cell? ⟨go5, (x29_2).toNat, none⟩ = some (.int .u32 (rd x3_1 x29_2)) ∧ w'.cell? ⟨go5, (x29_2).toNat, none⟩ = some (.int .u32 (rd x3_1 x29_2))) (ds := [21]) #[false, false, false, false, false, false, false, false, false, false, false, false, false, false, false, false, false, false, false, false, false, false, false] (by kernel_rfl) rfl rfl ⟨hx282_0, hx283_0, hx284_0, hx285_0⟩ (fun hHeld => ?_); refine with_tabW palaverref02_Sum.tab43 palaverref02_Sum.bits43 (fun HT_ HW_ => ?_)
       generalize wr.drew = w119 at HO_3 HO_28 HB hx282_0 hx283_0 hx284_0 hx285_0 hHeld ⊢
       refine runs_ [(0, some 243), (1, some 244), (2, some 245), (6, some 249), (7, some 250), (11, some 254), (12, some 255), (16, some 259), (17, some 260)] ?_
       iterate 9 (refine pL_ ?_)
       refine runsE_ ?_
       refine take_ (i := 3) (N := some 246) (v := ?_) (a' := ?_) #[true, true, true, true, false, false, true, true, false, false, false, true, true, false, false, false, true, true, false, false, false, false, false] rfl rfl (take_ofW HT_.out HW_.out (by kernel_rfl)) (fun _ _ _ h => h) (Or.inl ⟨by rfl, ?_⟩) hHeld ?_ ?_
       rotate_left
       ·rintro w' ⟨s0, s1, s2, s3⟩
        go_simp
        with_reducible rfl
       rotate_left
       ·simp only [pr_]
        rfl
       refine runs_ [(4, some 247), (5, some 248)] ?_
       iterate 2 (refine pL_ ?_)
       refine runsE_ ?_
       refine take_ (i := 8) (N := some 251) (v := ?_) (a' := ?_) #[true, true, true, true, true, true, true, true, true, false, false, true, true, false, false, false, true, true, false, false, false, false, false] rfl rfl (take_ofW HT_.out HW_.out (by kernel_rfl)) (fun _ _ _ h => h) (Or.inl ⟨by rfl, ?_⟩) hHeld ?_ ?_
       rotate_left
       ·rintro w' ⟨s0, s1, s2, s3⟩
        go_simp
        with_reducible rfl
       rotate_left
       ·simp only [pr_]
        rfl
       refine runs_ [(9, some 252), (10, some 253)] ?_
       iterate 2 (refine pL_ ?_)
       refine runsE_ ?_
       refine take_ (i := 13) (N := some 256) (v := ?_) (a' := ?_) #[true, true, true, true, true, true, true, true, true, true, true, true, true, true, false, false, true, true, false, false, false, false, false] rfl rfl (take_ofW HT_.out HW_.out (by kernel_rfl)) (fun _ _ _ h => h) (Or.inl ⟨by rfl, ?_⟩) hHeld ?_ ?_
       rotate_left
       ·rintro w' ⟨s0, s1, s2, s3⟩
        go_simp
        with_reducible rfl
       rotate_left
       ·simp only [pr_]
        rfl
       refine runs_ [(14, some 257), (15, some 258)] ?_
       iterate 2 (refine pL_ ?_)
       refine runsE_ ?_
       refine take_ (i := 18) (N := some 261) (v := ?_) (a' := ?_) #[true, true, true, true, true, true, true, true, true, true, true, true, true, true, true, true, true, true, true, false, false, false, false] rfl rfl (take_ofW HT_.out HW_.out (by kernel_rfl)) (fun _ _ _ h => h) (Or.inl ⟨by rfl, ?_⟩) hHeld ?_ ?_
       rotate_left
       ·rintro w' ⟨s0, s1, s2, s3⟩
        go_simp
        with_reducible rfl
       rotate_left
       ·simp only [pr_]
        rfl
       refine pure_ (i := 19) (N := some 262) (v := ?_) (a' := ?_) #[true, true, true, true, true, true, true, true, true, true, true, true, true, true, true, true, true, true, true, true, false, false, false] rfl rfl (any_of HT_.out (by kernel_rfl)) (fun _ _ _ h => h) (Or.inl ⟨by rfl, ?_⟩) ?_ ?_
       rotate_left
       ·intro w'
        go_simp
        with_reducible rfl
       rotate_left
       ·simp only [pr_]
        rfl
       refine one_ (i := 20) (N := some 263) #[true, true, true, true, true, true, true, true, true, true, true, true, true, true, true, true, true, true, true, true, true, false, false] rfl rfl (one_of HT_.out (by kernel_rfl)) (by decide) (fun K hK => ?_)
       refine Kd.R_lit_step (Kd.int .u8) _ 5 ?hg (N := 263) ?hd (xs := ([((rd x3_1 x29_2) / 16777216) % 256, ((rd x3_1 x29_2) / 65536) % 256, ((rd x3_1 x29_2) / 256) % 256, (rd x3_1 x29_2) % 256] : List Int)) (inner := [.int .u8 (((rd x3_1 x29_2) / 16777216) % 256), .int .u8 (((rd x3_1 x29_2) / 65536) % 256), .int .u8 (((rd x3_1 x29_2) / 256) % 256), .int .u8 ((rd x3_1 x29_2) % 256)]) (ok := fun _ => True) (okp := fun _ => True) ?hr ?hp (fun _ hk => hk) trivial (Below.refl _ _) (Nat.le_refl _) (by simp) ?_; (case hd => rfl); (case hg => rfl); (case hr => exact gr_); (case hp => exact (Reps.one (show Kd.M (Kd.int .u8) _ _ _ (((rd x3_1 x29_2) / 16777216) % 256) [.int .u8 (((rd x3_1 x29_2) / 16777216) % 256)] from rfl) (Reps.one (show Kd.M (Kd.int .u8) _ _ _ (((rd x3_1 x29_2) / 65536) % 256) [.int .u8 (((rd x3_1 x29_2) / 65536) % 256)] from rfl) (Reps.one (show Kd.M (Kd.int .u8) _ _ _ (((rd x3_1 x29_2) / 256) % 256) [.int .u8 (((rd x3_1 x29_2) / 256) % 256)] from rfl) (Reps.one (show Kd.M (Kd.int .u8) _ _ _ ((rd x3_1 x29_2) % 256) [.int .u8 ((rd x3_1 x29_2) % 256)] from rfl) (Reps.none _ _))))))
       intro v287 w120 ho121 hb hg_ hnew_
       have HS0_ := (hb.cell (World.block_lt_of_cell? _ _ (hHeld.1))).trans (hHeld.1)
       have HS1_ := (hb.cell (World.block_lt_of_cell? _ _ (hHeld.2.1))).trans (hHeld.2.1)
       have HS2_ := (hb.cell (World.block_lt_of_cell? _ _ (hHeld.2.2.1))).trans (hHeld.2.2.1)
       have HS3_ := (hb.cell (World.block_lt_of_cell? _ _ (hHeld.2.2.2))).trans (hHeld.2.2.2)
       clear hg_ hnew_
       (first | rw [← Ny286.out] at ho121 | (simp only [Int.reduceToNat] at ho121; rw [← Ny286.out] at ho121))
       have HO288 := Aside0.mk (Kd.R_lower (Kd.R_new' ho121 (Kd.R_lt (mv_ HO_28.out))) (below_size bl_))
       replace HB := Aside0.mk (below_step bl_ hb)
       replace HO_28 := Aside0.mk (Kd.R_elder' (mv_ HO_28.out) (Kd.R_base ho121) hb)
       replace HO_3 := Aside0.mk (Kd.R_below (mv_ HO_3.out) hb)
       clear hb ho121
       obtain ⟨Ao123, co123, eo123⟩ := Kd.R_slice HO288.out
       (first | subst eo123 | (injection eo123 with f1_ f2_ f3_; have f4_ := f1_.symm; have f5_ := f3_.symm; clear f1_ f2_ f3_; subst f4_; subst f5_))
       refine hK.out _ _ ⟨HS0_, HS1_, HS2_, HS3_⟩ (fun hHeld => ?_)
       clear hK K
       refine norm_ (a' := ?_) ?_ ?_
       rotate_left
       ·show Act.put _ (some 263) _ = _
        simp only [pr_]
        rfl
       refine last_ (i := 21) (N := some 264) #[true, true, true, true, true, true, true, true, true, true, true, true, true, true, true, true, true, true, true, true, true, true, false] rfl rfl (one_of HT_.out (by kernel_rfl)) (by decide) (fun K hK => ?_)
       refine Kd.R_append_rows_step (Kd.int .u8) (w0 := w) w.heap.size (by rfl) (.tmp 243) (.tmp 263) 39 5 (.int .u8 0) 1 rfl Tryz.underlying39 info5 rfl (by decide) (by omega) u28 x28_2 y286 _ _ _ (fun k_ => some k_ ≠ (.slice Ao123 y286.length co123 : Value).ownBlock) (fun _ => False) rfl rfl ?aO ?aR (fun _ _ h => h) (fun _ h => h.elim) ?aF ?aB ?aS ?aL ?_
       (case aR => repeat (first | exact (Kd.R_reads' HO288.out).2.2 | (with_reducible refine Kd.C_alloc ?_ _) | (with_reducible refine Kd.C_drewN ?_ _) | (with_reducible refine Kd.C_drew ?_)))
       (case aB => exact bl_)
       (case aF => exact (fun k_ hk => Kd.fresh' (Kd.R_lt (mv_ HO288.out)) k_ hk))
       (case aO => exact (by refine mv_ ?_; exact Kd.R_mono HO_28.out (fun _ hk => hk.2)))
       (case aS => exact (below_size bl_))
       (case aL => have := LMc118.out; omega)
       intro v290 w122 ho hb hg hat
       rw [← Ny289.out] at ho
       have HO291 := Aside0.mk (ho)
       replace HB := Aside0.mk (hb)
       replace HO288 := Aside0.mk (Kd.R_after (ok := (fun _ => True)) (mv_ HO288.out) hg hat)
       replace HO_3 := Aside0.mk (Kd.R_over' (mv_ HO_3.out) (Kd.R_typed (mv_ HO_28.out)) (by decide) hg)
       clear HO_28
       clear ho hb hg hat
       refine hK.out _ _ ?_
       clear hK K
       refine norm_ (a' := ?_) ?_ ?_
       rotate_left
       ·show Act.put _ (some 264) _ = _
        simp only [pr_]
        rfl
       refine pure_ (i := 22) (N := some 28) (v := ?_) (a' := ?_) #[true, true, true, true, true, true, true, true, true, true, true, true, true, true, true, true, true, true, true, true, true, true, true] rfl rfl (any_of HT_.out (by kernel_rfl)) (fun _ _ _ h => h) (Or.inl ⟨by rfl, ?_⟩) ?_ ?_
       rotate_left
       ·intro w'
        go_simp
        with_reducible rfl
       rotate_left
       ·simp only [pr_]
        rfl
       refine done_ (done_of HT_.out (by kernel_rfl)) ?_
       try go_wp2
       go_roundg k2
       case measure => have := HK1.out; have := HK2.out; omega
       case rel => exact ⟨(y289), (wrap64 (x29_2 + 1)), vq_, H', ⟨by have := HK1.out; have := HK2.out; omega⟩, ⟨by (try simp only [hl3_1]); (try simp only [hl4_1]); refine mv_ ?_; exact HO_3.out⟩, ⟨by (try simp only [hl3_1]); (try simp only [hl4_1]); refine mv_ ?_; exact Kd.R_mono HO291.out (fun _ hk => trivial)⟩, ⟨bl_⟩⟩
      ·rw [if_neg c115] at H
       exact absurd H (by simp)
      ⟩
      exact inferInstanceAs _
     rw [if_neg c114] at H
     have c114b0 : decide (x29_2 < 8) = false := decide_eq_false c114
     (try (have c114b7 := c114b0; simp only [hl3_1, hl4_1] at c114b7))
     clear c114
     obtain rfl := Option.some.inj H
     have hcv124 := own_string (P := Tryz.prog) Tryz.underlying39 Tryz.underlying5 Tryz.underlying9 (Kd.own_of_R HO_28.out)
     go_wp2
     go_ret
     exact ⟨er_, bl_⟩
   ⟩
   exact inferInstanceAs _

/-! ### palaverref02_Tag: function 34 -/
def palaverref02_Tag.f (k : Nat) (a0 : Int) (l1 : List ByteArray) : Option (ByteArray) := (palaverref02_Input.f k a0 l1).bind fun t292 => ((palaverref02_Sum.f k t292).bind fun t293 => (some t293))
theorem palaverref02_Tag.mono : ∀ a0 a1 k, LeO (palaverref02_Tag.f k a0 a1) (palaverref02_Tag.f (k + 1) a0 a1) := by
 intro a0 a1 k
 unfold palaverref02_Tag.f
 repeat' first
  | (with_reducible exact palaverref02_Input.mono _ _ _)
  | (with_reducible exact palaverref02_Sum.mono _ _)
  | (with_reducible exact LeO.refl _)
  | (with_reducible exact LeO.none _)
  | (with_reducible refine LeO.ite ?_ ?_)
  | (with_reducible refine LeO.bind ?_ (fun _ => ?_))
  | exact palaverref02_Input.mono _ _ _
  | exact palaverref02_Sum.mono _ _
  | exact LeO.none _
  | refine LeO.ite ?_ ?_
  | refine LeO.bind ?_ (fun _ => ?_)
set_option maxHeartbeats 64000000 in
set_option maxRecDepth 100000 in
theorem palaverref02_Tag.calls (k : Nat) (a0 : Int) (A1 : Option Addr) (c1 : Nat) (l1 : List ByteArray) (r : ByteArray) (w : World) (hr1 : Kd.C Kd.string w A1 l1.length l1) (hc1 : l1.length ≤ c1) (h : palaverref02_Tag.f k a0 l1 = some r) :
 Calls Tryz.prog 34 #[.int .i64 a0, .slice A1 l1.length c1] w fun e w' => e = .returned (.string r) ∧ Below w.heap.size w w' := by
 have HR1 := Aside0.mk hr1
 have HC1 := Aside0.mk hc1
 clear hr1 hc1
 have HB := Aside0.mk (Below.refl w.heap.size w)
 have H : ((palaverref02_Input.f k a0 l1).bind fun t292 => ((palaverref02_Sum.f k t292).bind fun t293 => (some t293))) = some r := h
 clear h
 revert H; refine oa_ fun t292 A3 => oa_ fun t293 A4 H => ?_
 obtain rfl := Option.some.inj H
 go_enter Tryz.func34, Tryz.ntmps34
 go_wp2_with (first | ((with_reducible refine gate_callee (f := 37) rfl ?_); refine gL_ 7 Tryz.func37 #[.int .i64 a0, .slice A1 l1.length c1] ?_; (with_reducible refine (palaverref02_Input.calls k a0 _ _ l1 t292 _ ?side1 ?side2 A3.out).mono ?_); (case side1 => repeat (first | exact HR1.out | (with_reducible refine Kd.C_alloc ?_ _) | (with_reducible refine Kd.C_drewN ?_ _) | (with_reducible refine Kd.C_drew ?_))); (case side2 => exact HC1.out); rintro e w5 ⟨rfl, hb⟩; refine ⟨_, rfl, ?_⟩; replace HB := Aside0.mk (below_step bl_ hb); clear hb) | ((with_reducible refine gate_callee (f := 54) rfl ?_); refine gL_ 8 Tryz.func54 #[.string t292] ?_; (with_reducible refine (palaverref02_Sum.calls k t292 t293 _ A4.out).mono ?_); rintro e w6 ⟨rfl, hb⟩; refine ⟨_, rfl, ?_⟩; replace HB := Aside0.mk (below_step bl_ hb); clear hb))
 go_ret
 exact ⟨er_, bl_⟩

/-! ### palaverref03_Step: function 67 -/
def palaverref03_Step.f (k : Nat) (a0 : Int) (a1 : ByteArray) : Option (ByteArray) := (palaverref01_Number.f k (Int.tmod (wrap64 ((Int.tmod a0 256) + 256)) 256) 1).bind fun bt294 => ((palaverref02_Tag.f k 1 (([bt294.1, a1] : List ByteArray))).bind fun t299 => (some t299))
theorem palaverref03_Step.mono : ∀ a0 a1 k, LeO (palaverref03_Step.f k a0 a1) (palaverref03_Step.f (k + 1) a0 a1) := by
 intro a0 a1 k
 unfold palaverref03_Step.f
 repeat' first
  | (with_reducible exact palaverref01_Number.mono _ _ _)
  | (with_reducible exact palaverref02_Tag.mono _ _ _)
  | (with_reducible exact LeO.refl _)
  | (with_reducible exact LeO.none _)
  | (with_reducible refine LeO.ite ?_ ?_)
  | (with_reducible refine LeO.bind ?_ (fun _ => ?_))
  | exact palaverref01_Number.mono _ _ _
  | exact palaverref02_Tag.mono _ _ _
  | exact LeO.none _
  | refine LeO.ite ?_ ?_
  | refine LeO.bind ?_ (fun _ => ?_)
set_option maxHeartbeats 64000000 in
set_option maxRecDepth 100000 in
theorem palaverref03_Step.calls (k : Nat) (a0 : Int) (a1 : ByteArray) (r : ByteArray) (w : World) (h : palaverref03_Step.f k a0 a1 = some r) :
 Calls Tryz.prog 67 #[.int .i64 a0, .string a1] w fun e w' => e = .returned (.string r) ∧ Below w.heap.size w w' := by
 have HB := Aside0.mk (Below.refl w.heap.size w)
 have H : ((palaverref01_Number.f k (Int.tmod (wrap64 ((Int.tmod a0 256) + 256)) 256) 1).bind fun bt294 => ((palaverref02_Tag.f k 1 (([bt294.1, a1] : List ByteArray))).bind fun t299 => (some t299))) = some r := h
 clear h
 replace H := ob_ H
 obtain ⟨⟨t294, t295⟩, A30, H⟩ := H
 replace H : ((palaverref02_Tag.f k 1 (([t294, a1] : List ByteArray))).bind fun t299 => (some t299)) = some r := H
 have A3 := Aside0.mk A30
 clear A30
 generalize e_ : (([t294, a1] : List ByteArray) : List ByteArray) = y296 at H
 have Ny296 := Aside0.mk e_.symm
 clear e_
 revert H; refine oa_ fun t299 A4 H => ?_
 obtain rfl := Option.some.inj H
 go_enter Tryz.func67, Tryz.ntmps67
 go_wp2_with (first | ((with_reducible refine gate_callee (f := 36) rfl ?_); refine gL_ 12 Tryz.func36 #[.int .i64 (Int.tmod (wrap64 ((Int.tmod a0 256) + 256)) 256), .int .i64 1] ?_; (with_reducible refine (palaverref01_Number.calls k (Int.tmod (wrap64 ((Int.tmod a0 256) + 256)) 256) 1 t294 t295 _ A3.out).mono ?_); rintro e w5 ⟨rfl, hb⟩; refine ⟨_, rfl, ?_⟩; replace HB := Aside0.mk (below_step bl_ hb); clear hb) | ((with_reducible refine gate_dst (N := 17) rfl ?_); refine Kd.R_lit Kd.string _ 9 ?hg (N := 17) ?hd (xs := ([t294, a1] : List ByteArray)) (inner := [.string t294, .string a1]) (ok := fun _ => True) (okp := fun _ => True) ?hr ?hp (fun _ hk => hk) trivial (Below.refl _ _) (Nat.le_refl _) (by simp) ?_; (case hd => rfl); (case hg => rfl); (case hr => exact gr_); (case hp => exact (Reps.one (show Kd.M Kd.string _ _ _ t294 [.string t294] from rfl) (Reps.one (show Kd.M Kd.string _ _ _ a1 [.string a1] from rfl) (Reps.none _ _)))); intro v297 w6 ho7 hb hg_ hnew_; clear hg_ hnew_; (first | rw [← Ny296.out] at ho7 | (simp only [Int.reduceToNat] at ho7; rw [← Ny296.out] at ho7)); have HO298 := Aside0.mk (Kd.R_lower ho7 (below_size bl_)); replace HB := Aside0.mk (below_step bl_ hb); clear hb ho7; obtain ⟨Ao8, co8, eo8⟩ := Kd.R_slice HO298.out; subst eo8) | ((with_reducible refine gate_callee (f := 34) rfl ?_); refine gL_ 18 Tryz.func34 #[.int .i64 1, .slice Ao8 y296.length co8] ?_; (with_reducible refine (palaverref02_Tag.calls k 1 _ _ y296 t299 _ ?side1 ?side2 A4.out).mono ?_); (case side1 => repeat (first | exact (Kd.R_reads' HO298.out).2.2 | (with_reducible refine Kd.C_alloc ?_ _) | (with_reducible refine Kd.C_drewN ?_ _) | (with_reducible refine Kd.C_drew ?_))); (case side2 => exact (Kd.R_reads' HO298.out).2.1); rintro e w9 ⟨rfl, hb⟩; refine ⟨_, rfl, ?_⟩; replace HB := Aside0.mk (below_step bl_ hb); replace HO298 := Aside0.mk (Kd.R_below (mv_ HO298.out) hb); clear hb))
 go_ret
 exact ⟨er_, bl_⟩

/-! ### palaverref03_Chain: function 100 -/
def palaverref03_Chain.l0 : Nat → Int → ByteArray → Int → Int → Option (ByteArray)
 | 0, _, _, _, _ => none
 | k + 1, x0, x1, x2, x7 => if x7 < x2 then (if x7 < 1000 then ((palaverref03_Step.f k x0 x1).bind fun t300 => (palaverref03_Chain.l0 k x0 t300 x2 (wrap64 (x7 + 1)))) else (some x1)) else (some x1)
def palaverref03_Chain.f (k : Nat) (a0 : Int) (a1 : ByteArray) (a2 : Int) : Option (ByteArray) := palaverref03_Chain.l0 k a0 a1 a2 0
theorem palaverref03_Chain.mono_l : ∀ k, (∀ y0 y1 y2 y3, LeO (palaverref03_Chain.l0 k y0 y1 y2 y3) (palaverref03_Chain.l0 (k + 1) y0 y1 y2 y3))
 | 0 => fun _ _ _ _ r h => by simp [palaverref03_Chain.l0] at h
 | k + 1 => by
  have ih0 := palaverref03_Chain.mono_l k
  ·intro y0 y1 y2 y3
   unfold palaverref03_Chain.l0
   repeat' first
   | (with_reducible exact ih0 _ _ _ _)
   | (with_reducible exact palaverref03_Step.mono _ _ _)
   | (with_reducible exact LeO.refl _)
   | (with_reducible exact LeO.none _)
   | (with_reducible refine LeO.ite ?_ ?_)
   | (with_reducible refine LeO.bind ?_ (fun _ => ?_))
   | exact ih0 _ _ _ _
   | exact palaverref03_Step.mono _ _ _
   | exact LeO.none _
   | refine LeO.ite ?_ ?_
   | refine LeO.bind ?_ (fun _ => ?_)
theorem palaverref03_Chain.mono : ∀ a0 a1 a2 k, LeO (palaverref03_Chain.f k a0 a1 a2) (palaverref03_Chain.f (k + 1) a0 a1 a2) := by
 intro a0 a1 a2 k
 have ih0 := palaverref03_Chain.mono_l k
 unfold palaverref03_Chain.f
 repeat' first
  | (with_reducible exact ih0 _ _ _ _)
  | (with_reducible exact palaverref03_Step.mono _ _ _)
  | (with_reducible exact LeO.refl _)
  | (with_reducible exact LeO.none _)
  | (with_reducible refine LeO.ite ?_ ?_)
  | (with_reducible refine LeO.bind ?_ (fun _ => ?_))
  | exact ih0 _ _ _ _
  | exact palaverref03_Step.mono _ _ _
  | exact LeO.none _
  | refine LeO.ite ?_ ?_
  | refine LeO.bind ?_ (fun _ => ?_)
set_option maxHeartbeats 64000000 in
set_option maxRecDepth 100000 in
theorem palaverref03_Chain.calls (k : Nat) (a0 : Int) (a1 : ByteArray) (a2 : Int) (r : ByteArray) (w : World) (h : palaverref03_Chain.f k a0 a1 a2 = some r) :
 Calls Tryz.prog 100 #[.int .i64 a0, .string a1, .int .i64 a2] w fun e w' => e = .returned (.string r) ∧ Below w.heap.size w w' := by
 have HB := Aside0.mk (Below.refl w.heap.size w)
 have H : (palaverref03_Chain.l0 k a0 a1 a2 0) = some r := h
 clear h
 have H' := Aside0.mk H
 clear H
 go_enter Tryz.func100, Tryz.ntmps100
 go_wp2
 go_loopg [1, 7] k (fun kq v1 v7 w' => ∃ (x1_1 : ByteArray) (x7_1 : Int), v1 = .string x1_1 ∧ v7 = .int .i64 x7_1 ∧ Aside0 (palaverref03_Chain.l0 kq a0 x1_1 a2 x7_1 = some r) ∧ Aside0 (kq ≤ k) ∧ Aside0 (Below w.heap.size w w'))
 case atStart => exact ⟨(a1), (0), vq_, vq_, H', ⟨Nat.le_refl _⟩, ⟨bl_⟩⟩
 case round =>
  clear H'
  (try clear c1); (try clear p2)
  obtain ⟨x1_1, x7_1, rfl, rfl, HA, HK1, HB⟩ := hrel
  cases gk with
  | zero => exact absurd HA.out (by simp [palaverref03_Chain.l0])
  | succ k1 =>
   have H := HA.out
   clear HA
   simp only [palaverref03_Chain.l0] at H
   by_cases c4 : x7_1 < a2
   ·rw [if_pos c4] at H
    have c4b0 : decide (x7_1 < a2) = true := decide_eq_true c4
    clear c4
    by_cases c5 : x7_1 < 1000
    ·rw [if_pos c5] at H
     have c5b0 : decide (x7_1 < 1000) = true := decide_eq_true c5
     clear c5
     revert H; refine oa_ fun t300 A6 H => ?_
     have H' := Aside0.mk H
     clear H
     go_wp2_with (first | ((with_reducible refine gate_callee (f := 67) rfl ?_); refine gL_ 19 Tryz.func67 #[.int .i64 a0, .string x1_1] ?_; (with_reducible refine (palaverref03_Step.calls k1 a0 x1_1 t300 _ A6.out).mono ?_); rintro e w7 ⟨rfl, hb⟩; refine ⟨_, rfl, ?_⟩; replace HB := Aside0.mk (below_step bl_ hb); (try clear hb); (try clear hb2); (try clear hk); (try clear hi)))
     go_roundg k1
     case measure => have := HK1.out; omega
     case rel => exact ⟨(t300), (wrap64 (x7_1 + 1)), vq_, vq_, H', ⟨by have := HK1.out; omega⟩, ⟨bl_⟩⟩
    rw [if_neg c5] at H
    have c5b0 : decide (x7_1 < 1000) = false := decide_eq_false c5
    clear c5
    obtain rfl := Option.some.inj H
    go_wp2
    go_ret
    exact ⟨er_, bl_⟩
   rw [if_neg c4] at H
   have c4b0 : decide (x7_1 < a2) = false := decide_eq_false c4
   clear c4
   obtain rfl := Option.some.inj H
   go_wp2
   go_ret
   exact ⟨er_, bl_⟩

/-! ### palaverref03_Secret: function 101 -/
def palaverref03_Secret.f (k : Nat) (a0 : ByteArray) (a1 : Int) (a2 : Int) : Option (ByteArray) := (palaverref01_Number.f k a1 2).bind fun bt301 => ((palaverref01_Number.f k a2 1).bind fun bt303 => ((palaverref02_Tag.f k 2 (([a0, bt301.1, bt303.1] : List ByteArray))).bind fun t308 => (some t308)))
theorem palaverref03_Secret.mono : ∀ a0 a1 a2 k, LeO (palaverref03_Secret.f k a0 a1 a2) (palaverref03_Secret.f (k + 1) a0 a1 a2) := by
 intro a0 a1 a2 k
 unfold palaverref03_Secret.f
 repeat' first
  | (with_reducible exact palaverref01_Number.mono _ _ _)
  | (with_reducible exact palaverref02_Tag.mono _ _ _)
  | (with_reducible exact LeO.refl _)
  | (with_reducible exact LeO.none _)
  | (with_reducible refine LeO.ite ?_ ?_)
  | (with_reducible refine LeO.bind ?_ (fun _ => ?_))
  | exact palaverref01_Number.mono _ _ _
  | exact palaverref02_Tag.mono _ _ _
  | exact LeO.none _
  | refine LeO.ite ?_ ?_
  | refine LeO.bind ?_ (fun _ => ?_)
set_option maxHeartbeats 64000000 in
set_option maxRecDepth 100000 in
theorem palaverref03_Secret.calls (k : Nat) (a0 : ByteArray) (a1 : Int) (a2 : Int) (r : ByteArray) (w : World) (h : palaverref03_Secret.f k a0 a1 a2 = some r) :
 Calls Tryz.prog 101 #[.string a0, .int .i64 a1, .int .i64 a2] w fun e w' => e = .returned (.string r) ∧ Below w.heap.size w w' := by
 have HB := Aside0.mk (Below.refl w.heap.size w)
 have H : ((palaverref01_Number.f k a1 2).bind fun bt301 => ((palaverref01_Number.f k a2 1).bind fun bt303 => ((palaverref02_Tag.f k 2 (([a0, bt301.1, bt303.1] : List ByteArray))).bind fun t308 => (some t308)))) = some r := h
 clear h
 replace H := ob_ H
 obtain ⟨⟨t301, t302⟩, A40, H⟩ := H
 replace H : ((palaverref01_Number.f k a2 1).bind fun bt303 => ((palaverref02_Tag.f k 2 (([a0, t301, bt303.1] : List ByteArray))).bind fun t308 => (some t308))) = some r := H
 have A4 := Aside0.mk A40
 clear A40
 replace H := ob_ H
 obtain ⟨⟨t303, t304⟩, A50, H⟩ := H
 replace H : ((palaverref02_Tag.f k 2 (([a0, t301, t303] : List ByteArray))).bind fun t308 => (some t308)) = some r := H
 have A5 := Aside0.mk A50
 clear A50
 generalize e_ : (([a0, t301, t303] : List ByteArray) : List ByteArray) = y305 at H
 have Ny305 := Aside0.mk e_.symm
 clear e_
 revert H; refine oa_ fun t308 A6 H => ?_
 obtain rfl := Option.some.inj H
 go_enter Tryz.func101, Tryz.ntmps101
 go_wp2_with (first | ((with_reducible refine gate_callee (f := 36) rfl ?_); refine gL_ 13 Tryz.func36 #[.int .i64 a1, .int .i64 2] ?_; (with_reducible refine (palaverref01_Number.calls k a1 2 t301 t302 _ A4.out).mono ?_); rintro e w7 ⟨rfl, hb⟩; refine ⟨_, rfl, ?_⟩; replace HB := Aside0.mk (below_step bl_ hb); (try clear hb); (try clear hb2); (try clear hk); (try clear hi)) | ((with_reducible refine gate_callee (f := 36) rfl ?_); refine gL_ 18 Tryz.func36 #[.int .i64 a2, .int .i64 1] ?_; (with_reducible refine (palaverref01_Number.calls k a2 1 t303 t304 _ A5.out).mono ?_); rintro e w8 ⟨rfl, hb⟩; refine ⟨_, rfl, ?_⟩; replace HB := Aside0.mk (below_step bl_ hb); (try clear hb); (try clear hb2); (try clear hk); (try clear hi)) | ((with_reducible refine gate_dst (N := 24) rfl ?_); refine Kd.R_lit Kd.string _ 9 ?hg (N := 24) ?hd (xs := ([a0, t301, t303] : List ByteArray)) (inner := [.string a0, .string t301, .string t303]) (ok := fun _ => True) (okp := fun _ => True) ?hr ?hp (fun _ hk => hk) trivial (Below.refl _ _) (Nat.le_refl _) (by simp) ?_; (case hd => rfl); (case hg => rfl); (case hr => exact gr_); (case hp => exact (Reps.one (show Kd.M Kd.string _ _ _ a0 [.string a0] from rfl) (Reps.one (show Kd.M Kd.string _ _ _ t301 [.string t301] from rfl) (Reps.one (show Kd.M Kd.string _ _ _ t303 [.string t303] from rfl) (Reps.none _ _))))); intro v306 w9 ho10 hb hg_ hnew_; clear hg_ hnew_; (first | rw [← Ny305.out] at ho10 | (simp only [Int.reduceToNat] at ho10; rw [← Ny305.out] at ho10)); have HO307 := Aside0.mk (Kd.R_lower ho10 (below_size bl_)); replace HB := Aside0.mk (below_step bl_ hb); clear hb ho10; obtain ⟨Ao11, co11, eo11⟩ := Kd.R_slice HO307.out; subst eo11) | ((with_reducible refine gate_callee (f := 34) rfl ?_); refine gL_ 25 Tryz.func34 #[.int .i64 2, .slice Ao11 y305.length co11] ?_; (with_reducible refine (palaverref02_Tag.calls k 2 _ _ y305 t308 _ ?side1 ?side2 A6.out).mono ?_); (case side1 => repeat (first | exact (Kd.R_reads' HO307.out).2.2 | (with_reducible refine Kd.C_alloc ?_ _) | (with_reducible refine Kd.C_drewN ?_ _) | (with_reducible refine Kd.C_drew ?_))); (case side2 => exact (Kd.R_reads' HO307.out).2.1); rintro e w12 ⟨rfl, hb⟩; refine ⟨_, rfl, ?_⟩; replace HB := Aside0.mk (below_step bl_ hb); replace HO307 := Aside0.mk (Kd.R_below (mv_ HO307.out) hb); (try clear hb); (try clear hb2); (try clear hk); (try clear hi)))
 go_ret
 exact ⟨er_, bl_⟩

/-! ### palaverref03_Public: function 99 -/
def palaverref03_Public.l0 : Nat → ByteArray → Int → List ByteArray → Int → Option (ByteArray)
 | 0, _, _, _, _ => none
 | k + 1, x0, x1, x5, x6 => if x6 < 67 then ((palaverref03_Secret.f k x0 x1 x6).bind fun t309 => ((palaverref03_Chain.f k x6 t309 15).bind fun t310 => (if x5.length < 8796093022208 then (palaverref03_Public.l0 k x0 x1 (x5 ++ [t310]) (wrap64 (x6 + 1))) else (none)))) else ((palaverref02_Tag.f k 3 x5).bind fun t314 => (some t314))
def palaverref03_Public.f (k : Nat) (a0 : ByteArray) (a1 : Int) : Option (ByteArray) := palaverref03_Public.l0 k a0 a1 ([] : List ByteArray) 0
theorem palaverref03_Public.mono_l : ∀ k, (∀ y0 y1 y2 y3, LeO (palaverref03_Public.l0 k y0 y1 y2 y3) (palaverref03_Public.l0 (k + 1) y0 y1 y2 y3))
 | 0 => fun _ _ _ _ r h => by simp [palaverref03_Public.l0] at h
 | k + 1 => by
  have ih0 := palaverref03_Public.mono_l k
  ·intro y0 y1 y2 y3
   unfold palaverref03_Public.l0
   repeat' first
   | (with_reducible exact ih0 _ _ _ _)
   | (with_reducible exact palaverref02_Tag.mono _ _ _)
   | (with_reducible exact palaverref03_Chain.mono _ _ _ _)
   | (with_reducible exact palaverref03_Secret.mono _ _ _ _)
   | (with_reducible exact LeO.refl _)
   | (with_reducible exact LeO.none _)
   | (with_reducible refine LeO.ite ?_ ?_)
   | (with_reducible refine LeO.bind ?_ (fun _ => ?_))
   | exact ih0 _ _ _ _
   | exact palaverref02_Tag.mono _ _ _
   | exact palaverref03_Chain.mono _ _ _ _
   | exact palaverref03_Secret.mono _ _ _ _
   | exact LeO.none _
   | refine LeO.ite ?_ ?_
   | refine LeO.bind ?_ (fun _ => ?_)
theorem palaverref03_Public.mono : ∀ a0 a1 k, LeO (palaverref03_Public.f k a0 a1) (palaverref03_Public.f (k + 1) a0 a1) := by
 intro a0 a1 k
 have ih0 := palaverref03_Public.mono_l k
 unfold palaverref03_Public.f
 repeat' first
  | (with_reducible exact ih0 _ _ _ _)
  | (with_reducible exact palaverref02_Tag.mono _ _ _)
  | (with_reducible exact palaverref03_Chain.mono _ _ _ _)
  | (with_reducible exact palaverref03_Secret.mono _ _ _ _)
  | (with_reducible exact LeO.refl _)
  | (with_reducible exact LeO.none _)
  | (with_reducible refine LeO.ite ?_ ?_)
  | (with_reducible refine LeO.bind ?_ (fun _ => ?_))
  | exact ih0 _ _ _ _
  | exact palaverref02_Tag.mono _ _ _
  | exact palaverref03_Chain.mono _ _ _ _
  | exact palaverref03_Secret.mono _ _ _ _
  | exact LeO.none _
  | refine LeO.ite ?_ ?_
  | refine LeO.bind ?_ (fun _ => ?_)
set_option maxHeartbeats 64000000 in
set_option maxRecDepth 100000 in
theorem palaverref03_Public.calls (k : Nat) (a0 : ByteArray) (a1 : Int) (r : ByteArray) (w : World) (h : palaverref03_Public.f k a0 a1 = some r) :
 Calls Tryz.prog 99 #[.string a0, .int .i64 a1] w fun e w' => e = .returned (.string r) ∧ Below w.heap.size w w' := by
 have HB := Aside0.mk (Below.refl w.heap.size w)
 have H : (palaverref03_Public.l0 k a0 a1 ([] : List ByteArray) 0) = some r := h
 clear h
 have H' := Aside0.mk H
 clear H
 go_enter Tryz.func99, Tryz.ntmps99
 go_wp2
 go_loopg [5, 6] k (fun kq v5 v6 w' => ∃ (x5_1 : List ByteArray) (x6_1 : Int), v6 = .int .i64 x6_1 ∧ Aside0 (palaverref03_Public.l0 kq a0 a1 x5_1 x6_1 = some r) ∧ Aside0 (kq ≤ k) ∧ Aside0 (Kd.R Kd.string 9 w' w.heap.size (fun _ => True) v5 x5_1) ∧ Aside0 (Below w.heap.size w w'))
 case atStart => exact ⟨(([] : List ByteArray)), (0), vq_, H', ⟨Nat.le_refl _⟩, ⟨by first | exact Kd.R_nil _ _ _ _ _ | exact Kd.N_nil _ _ _ _ _ | exact Kd.V_nil _ _ _ _ _ | exact Kd.Q_nil _ _ _ _ _ | exact Kd.S_nil _ _ _ _ _⟩, ⟨bl_⟩⟩
 case round =>
  clear H'
  (try clear p2)
  obtain ⟨x5_1, x6_1, rfl, HA, HK1, HO_5, HB⟩ := hrel
  cases gk with
  | zero => exact absurd HA.out (by simp [palaverref03_Public.l0])
  | succ k1 =>
   have H := HA.out
   clear HA
   simp only [palaverref03_Public.l0] at H
   by_cases c3 : x6_1 < 67
   ·rw [if_pos c3] at H
    have c3b0 : decide (x6_1 < 67) = true := decide_eq_true c3
    clear c3
    revert H; refine oa_ fun t309 A4 => oa_ fun t310 A5 => nc_ fun c6 H => ?_
    have LMc6 := Aside0.mk c6
    clear c6
    generalize e_ : (x5_1 ++ [t310] : List ByteArray) = y311 at H
    have Ny311 := Aside0.mk e_.symm
    clear e_
    have H' := Aside0.mk H
    clear H
    go_wp2_with (first | ((with_reducible refine gate_callee (f := 101) rfl ?_); refine gL_ 16 Tryz.func101 #[.string a0, .int .i64 a1, .int .i64 x6_1] ?_; (with_reducible refine (palaverref03_Secret.calls k1 a0 a1 x6_1 t309 _ A4.out).mono ?_); rintro e w7 ⟨rfl, hb⟩; refine ⟨_, rfl, ?_⟩; replace HB := Aside0.mk (below_step bl_ hb); replace HO_5 := Aside0.mk (Kd.R_below (mv_ HO_5.out) hb); (try clear hb); (try clear hb2); (try clear hk); (try clear hi)) | ((with_reducible refine gate_callee (f := 100) rfl ?_); refine gL_ 17 Tryz.func100 #[.int .i64 x6_1, .string t309, .int .i64 15] ?_; (with_reducible refine (palaverref03_Chain.calls k1 x6_1 t309 15 t310 _ A5.out).mono ?_); rintro e w8 ⟨rfl, hb⟩; refine ⟨_, rfl, ?_⟩; replace HB := Aside0.mk (below_step bl_ hb); replace HO_5 := Aside0.mk (Kd.R_below (mv_ HO_5.out) hb); (try clear hb); (try clear hb2); (try clear hk); (try clear hi)) | ((with_reducible refine gate_builtin (b := .append) (xs := #[.tmp 11, .tmp 18]) rfl ?_); at_builtin; refine Kd.R_append Kd.string (w0 := w) w.heap.size rfl (.tmp 11) (.tmp 18) 24 9 (.string ⟨#[]⟩) 16 rfl Tryz.underlying24 info9 rfl (by decide) (by omega) u5 x5_1 t310 [.string t310] (fun _ => True) (fun _ => False) rfl rfl ?aP (fun _ hk => hk.elim) ?aF ?aO ?aB ?aS ?aL ?_; (case aP => exact rfl); (case aB => exact bl_); (case aF => exact (fun _ _ => trivial)); (case aO => exact (mv_ HO_5.out)); (case aS => exact (below_size bl_)); (case aL => have := LMc6.out; omega); intro v312 w9 ho hb hg hat; rw [← Ny311.out] at ho; have HO313 := Aside0.mk (ho); replace HB := Aside0.mk (hb); clear HO_5; clear ho hb hg hat))
    go_roundg k1
    case measure => have := HK1.out; omega
    case rel => exact ⟨(y311), (wrap64 (x6_1 + 1)), vq_, H', ⟨by have := HK1.out; omega⟩, ⟨mv_ HO313.out⟩, ⟨bl_⟩⟩
   rw [if_neg c3] at H
   have c3b0 : decide (x6_1 < 67) = false := decide_eq_false c3
   clear c3
   revert H; refine oa_ fun t314 A10 H => ?_
   obtain rfl := Option.some.inj H
   obtain ⟨Ao11, co11, eo11⟩ := Kd.R_slice HO_5.out
   subst eo11
   go_wp2_with (first | ((with_reducible refine gate_callee (f := 34) rfl ?_); refine gL_ 21 Tryz.func34 #[.int .i64 3, .slice Ao11 x5_1.length co11] ?_; (with_reducible refine (palaverref02_Tag.calls k1 3 _ _ x5_1 t314 _ ?side1 ?side2 A10.out).mono ?_); (case side1 => repeat (first | exact (Kd.R_reads' HO_5.out).2.2 | (with_reducible refine Kd.C_alloc ?_ _) | (with_reducible refine Kd.C_drewN ?_ _) | (with_reducible refine Kd.C_drew ?_))); (case side2 => exact (Kd.R_reads' HO_5.out).2.1); rintro e w12 ⟨rfl, hb⟩; refine ⟨_, rfl, ?_⟩; replace HB := Aside0.mk (below_step bl_ hb); replace HO_5 := Aside0.mk (Kd.R_below (mv_ HO_5.out) hb); (try clear hb); (try clear hb2); (try clear hk); (try clear hi)))
   go_ret
   exact ⟨er_, bl_⟩

/-! ### palaverref05_Leaves: function 63 -/
mutual
def palaverref05_Leaves.l0 : Nat → ByteArray → Int → Int → Int → Option (List ByteArray)
 | 0, _, _, _, _ => none
 | k + 1, x0, x1, x6, x7 => if x7 < x1 then (palaverref05_Leaves.l0 k x0 x1 (wrap64 (2 * x6)) (wrap64 (x7 + 1))) else (palaverref05_Leaves.l1 k x0 ([] : List ByteArray) x6 0)
def palaverref05_Leaves.l1 : Nat → ByteArray → List ByteArray → Int → Int → Option (List ByteArray)
 | 0, _, _, _, _ => none
 | k + 1, x0, x5, x6, x8 => if x8 < x6 then ((palaverref03_Public.f k x0 x8).bind fun t315 => (if x5.length < 8796093022208 then (palaverref05_Leaves.l1 k x0 (x5 ++ [t315]) x6 (wrap64 (x8 + 1))) else (none))) else (some x5)
end
def palaverref05_Leaves.f (k : Nat) (a0 : ByteArray) (a1 : Int) : Option (List ByteArray) := palaverref05_Leaves.l0 k a0 a1 1 0
theorem palaverref05_Leaves.mono_l : ∀ k, (∀ y0 y1 y2 y3, LeO (palaverref05_Leaves.l0 k y0 y1 y2 y3) (palaverref05_Leaves.l0 (k + 1) y0 y1 y2 y3)) ∧ (∀ y0 y1 y2 y3, LeO (palaverref05_Leaves.l1 k y0 y1 y2 y3) (palaverref05_Leaves.l1 (k + 1) y0 y1 y2 y3))
 | 0 => ⟨fun _ _ _ _ r h => by simp [palaverref05_Leaves.l0] at h, fun _ _ _ _ r h => by simp [palaverref05_Leaves.l1] at h⟩
 | k + 1 => by
  obtain ⟨ih0, ih1⟩ := palaverref05_Leaves.mono_l k
  refine ⟨?_, ?_⟩ <;> intros <;> (first | unfold palaverref05_Leaves.l0 | unfold palaverref05_Leaves.l1) <;> repeat' first
  | (with_reducible exact ih0 _ _ _ _)
  | (with_reducible exact ih1 _ _ _ _)
  | (with_reducible exact palaverref03_Public.mono _ _ _)
  | (with_reducible exact LeO.refl _)
  | (with_reducible exact LeO.none _)
  | (with_reducible refine LeO.ite ?_ ?_)
  | (with_reducible refine LeO.bind ?_ (fun _ => ?_))
  | exact ih0 _ _ _ _
  | exact ih1 _ _ _ _
  | exact palaverref03_Public.mono _ _ _
  | exact LeO.none _
  | refine LeO.ite ?_ ?_
  | refine LeO.bind ?_ (fun _ => ?_)
theorem palaverref05_Leaves.mono : ∀ a0 a1 k, LeO (palaverref05_Leaves.f k a0 a1) (palaverref05_Leaves.f (k + 1) a0 a1) := by
 intro a0 a1 k
 obtain ⟨ih0, ih1⟩ := palaverref05_Leaves.mono_l k
 unfold palaverref05_Leaves.f
 repeat' first
  | (with_reducible exact ih0 _ _ _ _)
  | (with_reducible exact ih1 _ _ _ _)
  | (with_reducible exact palaverref03_Public.mono _ _ _)
  | (with_reducible exact LeO.refl _)
  | (with_reducible exact LeO.none _)
  | (with_reducible refine LeO.ite ?_ ?_)
  | (with_reducible refine LeO.bind ?_ (fun _ => ?_))
  | exact ih0 _ _ _ _
  | exact ih1 _ _ _ _
  | exact palaverref03_Public.mono _ _ _
  | exact LeO.none _
  | refine LeO.ite ?_ ?_
  | refine LeO.bind ?_ (fun _ => ?_)
set_option maxHeartbeats 64000000 in
set_option maxRecDepth 100000 in
theorem palaverref05_Leaves.calls (k : Nat) (a0 : ByteArray) (a1 : Int) (r : List ByteArray) (w : World) (h : palaverref05_Leaves.f k a0 a1 = some r) :
 Calls Tryz.prog 63 #[.string a0, .int .i64 a1] w fun e w' => ∃ v0_ : Value, e = .returned (v0_) ∧ Kd.R Kd.string 9 w' w.heap.size (fun _ => True) v0_ r ∧ Below w.heap.size w w' := by
 have HB := Aside0.mk (Below.refl w.heap.size w)
 have H : (palaverref05_Leaves.l0 k a0 a1 1 0) = some r := h
 clear h
 have H' := Aside0.mk H
 clear H
 go_enter Tryz.func63, Tryz.ntmps63
 go_wp2
 go_loopg [6, 7] k (fun kq v6 v7 w' => ∃ (x6_1 : Int) (x7_1 : Int), v6 = .int .i64 x6_1 ∧ v7 = .int .i64 x7_1 ∧ Aside0 (palaverref05_Leaves.l0 kq a0 a1 x6_1 x7_1 = some r) ∧ Aside0 (kq ≤ k) ∧ Aside0 (Below w.heap.size w w'))
 case atStart => exact ⟨(1), (0), vq_, vq_, H', ⟨Nat.le_refl _⟩, ⟨bl_⟩⟩
 case round =>
  clear H'
  (try clear p2)
  obtain ⟨x6_1, x7_1, rfl, rfl, HA, HK1, HB⟩ := hrel
  cases gk with
  | zero => exact absurd HA.out (by simp [palaverref05_Leaves.l0])
  | succ k1 =>
   have H := HA.out
   clear HA
   simp only [palaverref05_Leaves.l0] at H
   by_cases c3 : x7_1 < a1
   ·rw [if_pos c3] at H
    have c3b0 : decide (x7_1 < a1) = true := decide_eq_true c3
    clear c3
    have H' := Aside0.mk H
    clear H
    go_wp2
    go_roundg k1
    case measure => have := HK1.out; omega
    case rel => exact ⟨(wrap64 (2 * x6_1)), (wrap64 (x7_1 + 1)), vq_, vq_, H', ⟨by have := HK1.out; omega⟩, ⟨bl_⟩⟩
   rw [if_neg c3] at H
   have c3b0 : decide (x7_1 < a1) = false := decide_eq_false c3
   clear c3
   have H' := Aside0.mk H
   clear H
   go_wp2
   go_loopg [5, 8] k1 (fun kq v5 v8 w' => ∃ (x5_2 : List ByteArray) (x8_2 : Int), v8 = .int .i64 x8_2 ∧ Aside0 (palaverref05_Leaves.l1 kq a0 x5_2 x6_1 x8_2 = some r) ∧ Aside0 (kq ≤ k1) ∧ Aside0 (Kd.R Kd.string 9 w' w.heap.size (fun _ => True) v5 x5_2) ∧ Aside0 (Below w.heap.size w w'))
   case atStart => exact ⟨(([] : List ByteArray)), (0), vq_, H', ⟨Nat.le_refl _⟩, ⟨by first | exact Kd.R_nil _ _ _ _ _ | exact Kd.N_nil _ _ _ _ _ | exact Kd.V_nil _ _ _ _ _ | exact Kd.Q_nil _ _ _ _ _ | exact Kd.S_nil _ _ _ _ _⟩, ⟨bl_⟩⟩
   case round =>
    clear H'
    (try clear p2); (try clear c3); (try clear c3b0); (try clear p2)
    obtain ⟨x5_2, x8_2, rfl, HA, HK2, HO_5, HB⟩ := hrel
    cases gk with
    | zero => exact absurd HA.out (by simp [palaverref05_Leaves.l1])
    | succ k2 =>
     have H := HA.out
     clear HA
     simp only [palaverref05_Leaves.l1] at H
     by_cases c4 : x8_2 < x6_1
     ·rw [if_pos c4] at H
      have c4b0 : decide (x8_2 < x6_1) = true := decide_eq_true c4
      clear c4
      revert H; refine oa_ fun t315 A5 => nc_ fun c6 H => ?_
      have LMc6 := Aside0.mk c6
      clear c6
      generalize e_ : (x5_2 ++ [t315] : List ByteArray) = y316 at H
      have Ny316 := Aside0.mk e_.symm
      clear e_
      have H' := Aside0.mk H
      clear H
      go_wp2_with (first | ((with_reducible refine gate_callee (f := 99) rfl ?_); refine gL_ 24 Tryz.func99 #[.string a0, .int .i64 x8_2] ?_; (with_reducible refine (palaverref03_Public.calls k2 a0 x8_2 t315 _ A5.out).mono ?_); rintro e w7 ⟨rfl, hb⟩; refine ⟨_, rfl, ?_⟩; replace HB := Aside0.mk (below_step bl_ hb); replace HO_5 := Aside0.mk (Kd.R_below (mv_ HO_5.out) hb); (try clear hb); (try clear hb2); (try clear hk); (try clear hi)) | ((with_reducible refine gate_builtin (b := .append) (xs := #[.tmp 21, .tmp 25]) rfl ?_); at_builtin; refine Kd.R_append Kd.string (w0 := w) w.heap.size rfl (.tmp 21) (.tmp 25) 24 9 (.string ⟨#[]⟩) 16 rfl Tryz.underlying24 info9 rfl (by decide) (by omega) u5 x5_2 t315 [.string t315] (fun _ => True) (fun _ => False) rfl rfl ?aP (fun _ hk => hk.elim) ?aF ?aO ?aB ?aS ?aL ?_; (case aP => exact rfl); (case aB => exact bl_); (case aF => exact (fun _ _ => trivial)); (case aO => exact (mv_ HO_5.out)); (case aS => exact (below_size bl_)); (case aL => have := LMc6.out; omega); intro v317 w8 ho hb hg hat; rw [← Ny316.out] at ho; have HO318 := Aside0.mk (ho); replace HB := Aside0.mk (hb); clear HO_5; clear ho hb hg hat))
      go_roundg k2
      case measure => have := HK1.out; have := HK2.out; omega
      case rel => exact ⟨(y316), (wrap64 (x8_2 + 1)), vq_, H', ⟨by have := HK1.out; have := HK2.out; omega⟩, ⟨mv_ HO318.out⟩, ⟨bl_⟩⟩
     rw [if_neg c4] at H
     have c4b0 : decide (x8_2 < x6_1) = false := decide_eq_false c4
     clear c4
     obtain rfl := Option.some.inj H
     go_wp2
     go_ret
     exact ⟨_, er_, mv_ HO_5.out, bl_⟩

/-! ### palaverref03_Digits: function 66 -/
mutual
def palaverref03_Digits.l0 : Nat → ByteArray → List Int → Int → Int → Option (List Int)
 | 0, _, _, _, _ => none
 | k + 1, x0, x3, x4, x5 => if x5 < (x0.size : Int) then (if 0 ≤ x5 then ((some (([wrap64 (Int.tdiv (wrap64 (bt x0 x5)) 16), Int.tmod (wrap64 (bt x0 x5)) 16] : List Int) : List Int)).bind fun y319 => (if x3.length + y319.length < 17592186044416 then (palaverref03_Digits.l0 k x0 (x3 ++ y319) x4 (wrap64 (x5 + 1))) else (none))) else (none)) else (palaverref03_Digits.l1 k x3 x4 0)
def palaverref03_Digits.l1 : Nat → List Int → Int → Int → Option (List Int)
 | 0, _, _, _ => none
 | k + 1, x3, x4, x6 => if x6 < (x3.length : Int) then (if 0 ≤ x6 then (palaverref03_Digits.l1 k x3 (wrap64 ((wrap64 (x4 + 15)) - (rd x3 x6))) (wrap64 (x6 + 1))) else (none)) else ((some (([wrap64 (Int.tdiv x4 256), Int.tmod (wrap64 (Int.tdiv x4 16)) 16, Int.tmod x4 16] : List Int) : List Int)).bind fun y326 => (if x3.length + y326.length < 17592186044416 then (some (x3 ++ y326)) else (none)))
end
def palaverref03_Digits.f (k : Nat) (a0 : ByteArray) : Option (List Int) := palaverref03_Digits.l0 k a0 ([] : List Int) 0 0
theorem palaverref03_Digits.mono_l : ∀ k, (∀ y0 y1 y2 y3, LeO (palaverref03_Digits.l0 k y0 y1 y2 y3) (palaverref03_Digits.l0 (k + 1) y0 y1 y2 y3)) ∧ (∀ y0 y1 y2, LeO (palaverref03_Digits.l1 k y0 y1 y2) (palaverref03_Digits.l1 (k + 1) y0 y1 y2))
 | 0 => ⟨fun _ _ _ _ r h => by simp [palaverref03_Digits.l0] at h, fun _ _ _ r h => by simp [palaverref03_Digits.l1] at h⟩
 | k + 1 => by
  obtain ⟨ih0, ih1⟩ := palaverref03_Digits.mono_l k
  refine ⟨?_, ?_⟩ <;> intros <;> (first | unfold palaverref03_Digits.l0 | unfold palaverref03_Digits.l1) <;> repeat' first
  | (with_reducible exact ih0 _ _ _ _)
  | (with_reducible exact ih1 _ _ _)
  | (with_reducible exact LeO.refl _)
  | (with_reducible exact LeO.none _)
  | (with_reducible refine LeO.ite ?_ ?_)
  | (with_reducible refine LeO.bind ?_ (fun _ => ?_))
  | exact ih0 _ _ _ _
  | exact ih1 _ _ _
  | exact LeO.none _
  | refine LeO.ite ?_ ?_
  | refine LeO.bind ?_ (fun _ => ?_)
theorem palaverref03_Digits.mono : ∀ a0 k, LeO (palaverref03_Digits.f k a0) (palaverref03_Digits.f (k + 1) a0) := by
 intro a0 k
 obtain ⟨ih0, ih1⟩ := palaverref03_Digits.mono_l k
 unfold palaverref03_Digits.f
 repeat' first
  | (with_reducible exact ih0 _ _ _ _)
  | (with_reducible exact ih1 _ _ _)
  | (with_reducible exact LeO.refl _)
  | (with_reducible exact LeO.none _)
  | (with_reducible refine LeO.ite ?_ ?_)
  | (with_reducible refine LeO.bind ?_ (fun _ => ?_))
  | exact ih0 _ _ _ _
  | exact ih1 _ _ _
  | exact LeO.none _
  | refine LeO.ite ?_ ?_
  | refine LeO.bind ?_ (fun _ => ?_)
def palaverref03_Digits.T6 : Bool × List (List Nat × List Nat) := (true, [([], []), ([], []), ([], []), ([1, 2], [1, 2]), ([3], [3]), ([4], [4]), ([], []), ([], []), ([6, 7], [6, 7]), ([8], [8]), ([9], [9]), ([5, 10], [5, 10]), ([0, 11], [0, 11]), ([12, 12, 0, 1, 2, 3, 4, 5, 6, 7, 8, 9, 10, 11, 12], [0, 12])])
def palaverref03_Digits.B6 : List Nat := [0, 0, 0, 6, 14, 30, 0, 0, 192, 448, 960, 2046, 4095, 8191]
theorem palaverref03_Digits.tab6 : rtab .any (opsOf Tryz.f66 6) = palaverref03_Digits.T6 := by kernel_rfl
theorem palaverref03_Digits.bits6 : waitsOk palaverref03_Digits.T6.2 palaverref03_Digits.B6 = true := by kernel_rfl
set_option maxHeartbeats 64000000 in
set_option maxRecDepth 100000 in
theorem palaverref03_Digits.calls (k : Nat) (a0 : ByteArray) (r : List Int) (w : World) (h : palaverref03_Digits.f k a0 = some r) :
 Calls Tryz.prog 66 #[.string a0] w fun e w' => ∃ v0_ : Value, e = .returned (v0_) ∧ Kd.R (Kd.int .i64) 3 w' w.heap.size (fun _ => True) v0_ r ∧ Below w.heap.size w w' := by
 have HB := Aside0.mk (Below.refl w.heap.size w)
 have H : (palaverref03_Digits.l0 k a0 ([] : List Int) 0 0) = some r := h
 clear h
 have H' := Aside0.mk H
 clear H
 go_enter Tryz.func66, Tryz.ntmps66
 go_wp2
 go_loopg [3, 5] k (fun kq v3 v5 w' => ∃ (x3_1 : List Int) (x5_1 : Int), v5 = .int .i64 x5_1 ∧ Aside0 (palaverref03_Digits.l0 kq a0 x3_1 0 x5_1 = some r) ∧ Aside0 (kq ≤ k) ∧ Aside0 (Kd.R (Kd.int .i64) 3 w' w.heap.size (fun _ => True) v3 x3_1) ∧ Aside0 (Below w.heap.size w w'))
 case atStart => exact ⟨(([] : List Int)), (0), vq_, H', ⟨Nat.le_refl _⟩, ⟨by first | exact Kd.R_nil _ _ _ _ _ | exact Kd.N_nil _ _ _ _ _ | exact Kd.V_nil _ _ _ _ _ | exact Kd.Q_nil _ _ _ _ _ | exact Kd.S_nil _ _ _ _ _⟩, ⟨bl_⟩⟩
 case round =>
  clear H'
  obtain ⟨x3_1, x5_1, rfl, HA, HK1, HO_3, HB⟩ := hrel
  cases gk with
  | zero => exact absurd HA.out (by simp [palaverref03_Digits.l0])
  | succ k1 =>
   have H := HA.out
   clear HA
   simp only [palaverref03_Digits.l0] at H
   by_cases c2 : x5_1 < (a0.size : Int)
   ·rw [if_pos c2] at H
    have c2b0 : decide (x5_1 < (a0.size : Int)) = true := decide_eq_true c2
    clear c2
    revert H; refine nd_ fun c3 c3b0 => oy_ fun y319 Ny319 => nc_ fun c6 H => ?_
    have LMc6 := Aside0.mk c6
    clear c3 c6
    generalize e_ : (x3_1 ++ y319 : List Int) = y322 at H
    have Ny322 := Aside0.mk e_.symm
    clear e_
    have H' := Aside0.mk H
    clear H
    try go_wp2
    replace HB := Aside0.mk (below_drew1 HB.out)
    replace HO_3 := Aside0.mk (Kd.R_drew HO_3.out)
    have p4 := eq_true (ae_ : 0 ≤ (x5_1 : Int))
    have q4 := eq_true (ae_ : x5_1 < (a0.size : Int))
    have hx4 := bt_at a0 x5_1
    have p5 := eq_true (ae_ : 0 ≤ (x5_1 : Int))
    have q5 := eq_true (ae_ : x5_1 < (a0.size : Int))
    have hx5 := bt_at a0 x5_1
    refine start_ (n := 14) (S := fun w' => True) (ds := []) #[false, false, false, false, false, false, false, false, false, false, false, false, false, false] (by kernel_rfl) rfl rfl trivial (fun hHeld => ?_); refine with_tabW palaverref03_Digits.tab6 palaverref03_Digits.bits6 (fun HT_ HW_ => ?_)
    generalize wr.drew = w7 at HO_3 HB hHeld ⊢
    refine runs_ [(0, some 13), (1, some 14), (2, some 15), (6, some 19), (7, some 20)] ?_
    iterate 5 (refine pL_ ?_)
    refine runsE_ ?_
    refine take_ (i := 3) (N := some 16) (v := ?_) (a' := ?_) #[true, true, true, true, false, false, true, true, false, false, false, false, false, false] rfl rfl (take_ofW HT_.out HW_.out (by kernel_rfl)) (fun _ _ _ h => h) (Or.inl ⟨by rfl, ?_⟩) hHeld ?_ ?_
    rotate_left
    ·intro w' _
     go_simp
     with_reducible rfl
    rotate_left
    ·simp only [pr_]
     rfl
    refine runs_ [(4, some 17), (5, some 18)] ?_
    iterate 2 (refine pL_ ?_)
    refine runsE_ ?_
    refine take_ (i := 8) (N := some 21) (v := ?_) (a' := ?_) #[true, true, true, true, true, true, true, true, true, false, false, false, false, false] rfl rfl (take_ofW HT_.out HW_.out (by kernel_rfl)) (fun _ _ _ h => h) (Or.inl ⟨by rfl, ?_⟩) hHeld ?_ ?_
    rotate_left
    ·intro w' _
     go_simp
     with_reducible rfl
    rotate_left
    ·simp only [pr_]
     rfl
    refine runs_ [(9, some 22), (10, some 23)] ?_
    iterate 2 (refine pL_ ?_)
    refine runsE_ ?_
    refine one_ (i := 11) (N := some 24) #[true, true, true, true, true, true, true, true, true, true, true, true, false, false] rfl rfl (one_of HT_.out (by kernel_rfl)) (by decide) (fun K hK => ?_)
    refine Kd.R_lit_step (Kd.int .i64) _ 3 ?hg (N := 24) ?hd (xs := ([wrap64 (Int.tdiv (wrap64 (bt a0 x5_1)) 16), Int.tmod (wrap64 (bt a0 x5_1)) 16] : List Int)) (inner := [.int .i64 (wrap64 (Int.tdiv (wrap64 (bt a0 x5_1)) 16)), .int .i64 (Int.tmod (wrap64 (bt a0 x5_1)) 16)]) (ok := fun _ => True) (okp := fun _ => True) ?hr ?hp (fun _ hk => hk) trivial (Below.refl _ _) (Nat.le_refl _) (by simp) ?_; (case hd => rfl); (case hg => rfl); (case hr => exact gr_); (case hp => exact (Reps.one (show Kd.M (Kd.int .i64) _ _ _ (wrap64 (Int.tdiv (wrap64 (bt a0 x5_1)) 16)) [.int .i64 (wrap64 (Int.tdiv (wrap64 (bt a0 x5_1)) 16))] from rfl) (Reps.one (show Kd.M (Kd.int .i64) _ _ _ (Int.tmod (wrap64 (bt a0 x5_1)) 16) [.int .i64 (Int.tmod (wrap64 (bt a0 x5_1)) 16)] from rfl) (Reps.none _ _))))
    intro v320 w8 ho9 hb hg_ hnew_
    clear hg_ hnew_
    (first | rw [← Ny319.out] at ho9 | (simp only [Int.reduceToNat] at ho9; rw [← Ny319.out] at ho9))
    have HO321 := Aside0.mk (Kd.R_lower (Kd.R_new' ho9 (Kd.R_lt (mv_ HO_3.out))) (below_size bl_))
    replace HB := Aside0.mk (below_step bl_ hb)
    replace HO_3 := Aside0.mk (Kd.R_elder' (mv_ HO_3.out) (Kd.R_base ho9) hb)
    clear hb ho9
    obtain ⟨Ao11, co11, eo11⟩ := Kd.R_slice HO321.out
    (first | subst eo11 | (injection eo11 with f1_ f2_ f3_; have f4_ := f1_.symm; have f5_ := f3_.symm; clear f1_ f2_ f3_; subst f4_; subst f5_))
    refine hK.out _ _ trivial (fun hHeld => ?_)
    clear hK K
    refine norm_ (a' := ?_) ?_ ?_
    rotate_left
    ·show Act.put _ (some 24) _ = _
     simp only [pr_]
     rfl
    refine one_ (i := 12) (N := some 25) #[true, true, true, true, true, true, true, true, true, true, true, true, true, false] rfl rfl (one_of HT_.out (by kernel_rfl)) (by decide) (fun K hK => ?_)
    refine Kd.R_append_rows_step (Kd.int .i64) (w0 := w) w.heap.size (by rfl) (.tmp 13) (.tmp 24) 105 3 (.int .i64 0) 8 rfl Tryz.underlying105 info3 rfl (by decide) (by omega) u3 x3_1 y319 _ _ _ (fun k_ => some k_ ≠ (.slice Ao11 y319.length co11 : Value).ownBlock) (fun _ => False) rfl rfl ?aO ?aR (fun _ _ h => h) (fun _ h => h.elim) ?aF ?aB ?aS ?aL ?_
    (case aR => repeat (first | exact (Kd.R_reads' HO321.out).2.2 | (with_reducible refine Kd.C_alloc ?_ _) | (with_reducible refine Kd.C_drewN ?_ _) | (with_reducible refine Kd.C_drew ?_)))
    (case aB => exact bl_)
    (case aF => exact (fun k_ hk => Kd.fresh' (Kd.R_lt (mv_ HO321.out)) k_ hk))
    (case aO => exact (by refine mv_ ?_; exact Kd.R_mono HO_3.out (fun _ hk => hk.2)))
    (case aS => exact (below_size bl_))
    (case aL => have := LMc6.out; omega)
    intro v323 w10 ho hb hg hat
    rw [← Ny322.out] at ho
    have HO324 := Aside0.mk (ho)
    replace HB := Aside0.mk (hb)
    replace HO321 := Aside0.mk (Kd.R_after (ok := (fun _ => True)) (mv_ HO321.out) hg hat)
    clear HO_3
    clear ho hb hg hat
    refine hK.out _ _ trivial (fun hHeld => ?_)
    clear hK K
    refine norm_ (a' := ?_) ?_ ?_
    rotate_left
    ·show Act.put _ (some 25) _ = _
     simp only [pr_]
     rfl
    refine pure_ (i := 13) (N := some 3) (v := ?_) (a' := ?_) #[true, true, true, true, true, true, true, true, true, true, true, true, true, true] rfl rfl (any_of HT_.out (by kernel_rfl)) (fun _ _ _ h => h) (Or.inl ⟨by rfl, ?_⟩) ?_ ?_
    rotate_left
    ·intro w'
     go_simp
     with_reducible rfl
    rotate_left
    ·simp only [pr_]
     rfl
    refine done_ (done_of HT_.out (by kernel_rfl)) ?_
    try go_wp2
    go_roundg k1
    case measure => have := HK1.out; omega
    case rel => exact ⟨(y322), (wrap64 (x5_1 + 1)), vq_, H', ⟨by have := HK1.out; omega⟩, ⟨by refine mv_ ?_; exact Kd.R_mono HO324.out (fun _ hk => trivial)⟩, ⟨bl_⟩⟩
   rw [if_neg c2] at H
   have c2b0 : decide (x5_1 < (a0.size : Int)) = false := decide_eq_false c2
   clear c2
   have H' := Aside0.mk H
   clear H
   go_wp2
   go_loopg [4, 6] k1 (fun kq v4 v6 w' => ∃ (x4_2 : Int) (x6_2 : Int), v4 = .int .i64 x4_2 ∧ v6 = .int .i64 x6_2 ∧ Aside0 (palaverref03_Digits.l1 kq x3_1 x4_2 x6_2 = some r) ∧ Aside0 (kq ≤ k1) ∧ Aside0 (Kd.R (Kd.int .i64) 3 w' w.heap.size (fun _ => True) u3 x3_1) ∧ Aside0 (Below w.heap.size w w'))
   case atStart => exact ⟨(0), (0), vq_, vq_, H', ⟨Nat.le_refl _⟩, ⟨mv_ HO_3.out⟩, ⟨bl_⟩⟩
   case round =>
    clear H'
    (try clear c2); (try clear c2b0); (try clear p2); (try clear c3); (try clear c3b0); (try clear p4); (try clear q4); (try clear hx4); (try clear p5); (try clear q5); (try clear hx5); (try clear c6); (try clear p6); (try clear p4); (try clear p5); (try clear q4); (try clear q5)
    obtain ⟨x4_2, x6_2, rfl, rfl, HA, HK2, HO_3, HB⟩ := hrel
    cases gk with
    | zero => exact absurd HA.out (by simp [palaverref03_Digits.l1])
    | succ k2 =>
     have H := HA.out
     clear HA
     simp only [palaverref03_Digits.l1] at H
     by_cases c12 : x6_2 < (x3_1.length : Int)
     ·rw [if_pos c12] at H
      have c12b0 : decide (x6_2 < (x3_1.length : Int)) = true := decide_eq_true c12
      clear c12
      revert H; refine nd_ fun c13 c13b0 H => ?_
      clear c13
      have H' := Aside0.mk H
      clear H
      obtain ⟨Ao14, co14, eo14⟩ := Kd.R_slice HO_3.out
      subst eo14
      have p325 : 0 ≤ (x6_2 : Int) := ae_
      have q325 : x6_2 < (x3_1.length : Int) := ae_
      obtain ⟨ad325, e325, hx325_0⟩ := Kd.at_int (Kd.R_reads' HO_3.out).2.2 x6_2 p325 q325
      cases e325
      replace p325 := eq_true p325
      replace q325 := eq_true q325
      go_wp2
      go_roundg k2
      case measure => have := HK1.out; have := HK2.out; omega
      case rel => exact ⟨(wrap64 ((wrap64 (x4_2 + 15)) - (rd x3_1 x6_2))), (wrap64 (x6_2 + 1)), vq_, vq_, H', ⟨by have := HK1.out; have := HK2.out; omega⟩, ⟨mv_ HO_3.out⟩, ⟨bl_⟩⟩
     rw [if_neg c12] at H
     have c12b0 : decide (x6_2 < (x3_1.length : Int)) = false := decide_eq_false c12
     clear c12
     revert H; refine oy_ fun y326 Ny326 => nc_ fun c15 H => ?_
     have LMc15 := Aside0.mk c15
     clear c15
     generalize e_ : (x3_1 ++ y326 : List Int) = y329 at H
     have Ny329 := Aside0.mk e_.symm
     clear e_
     obtain rfl := Option.some.inj H
     obtain ⟨Ao16, co16, eo16⟩ := Kd.R_slice HO_3.out
     subst eo16
     go_wp2_with (first | ((with_reducible refine gate_dst (N := 47) rfl ?_); refine Kd.R_lit (Kd.int .i64) _ 3 ?hg (N := 47) ?hd (xs := ([wrap64 (Int.tdiv x4_2 256), Int.tmod (wrap64 (Int.tdiv x4_2 16)) 16, Int.tmod x4_2 16] : List Int)) (inner := [.int .i64 (wrap64 (Int.tdiv x4_2 256)), .int .i64 (Int.tmod (wrap64 (Int.tdiv x4_2 16)) 16), .int .i64 (Int.tmod x4_2 16)]) (ok := fun _ => True) (okp := fun _ => True) ?hr ?hp (fun _ hk => hk) trivial (Below.refl _ _) (Nat.le_refl _) (by simp) ?_; (case hd => rfl); (case hg => rfl); (case hr => exact gr_); (case hp => exact (Reps.one (show Kd.M (Kd.int .i64) _ _ _ (wrap64 (Int.tdiv x4_2 256)) [.int .i64 (wrap64 (Int.tdiv x4_2 256))] from rfl) (Reps.one (show Kd.M (Kd.int .i64) _ _ _ (Int.tmod (wrap64 (Int.tdiv x4_2 16)) 16) [.int .i64 (Int.tmod (wrap64 (Int.tdiv x4_2 16)) 16)] from rfl) (Reps.one (show Kd.M (Kd.int .i64) _ _ _ (Int.tmod x4_2 16) [.int .i64 (Int.tmod x4_2 16)] from rfl) (Reps.none _ _))))); intro v327 w17 ho18 hb hg_ hnew_; clear hg_ hnew_; (first | rw [← Ny326.out] at ho18 | (simp only [Int.reduceToNat] at ho18; rw [← Ny326.out] at ho18)); have HO328 := Aside0.mk (Kd.R_lower (Kd.R_new' ho18 (Kd.R_lt (mv_ HO_3.out))) (below_size bl_)); replace HB := Aside0.mk (below_step bl_ hb); replace HO_3 := Aside0.mk (Kd.R_elder' (mv_ HO_3.out) (Kd.R_base ho18) hb); clear hb ho18; obtain ⟨Ao20, co20, eo20⟩ := Kd.R_slice HO328.out; subst eo20) | ((with_reducible refine gate_builtin (b := .append) (xs := #[.tmp 39, .tmp 47]) rfl ?_); at_builtin; refine Kd.R_append_rows (Kd.int .i64) (w0 := w) w.heap.size rfl (.tmp 39) (.tmp 47) 105 3 (.int .i64 0) 8 rfl Tryz.underlying105 info3 rfl (by decide) (by omega) (.slice Ao16 x3_1.length co16) x3_1 y326 _ _ _ (fun k_ => some k_ ≠ (.slice Ao20 y326.length co20 : Value).ownBlock) (fun _ => False) rfl rfl ?aO ?aR (fun _ _ h => h) (fun _ h => h.elim) ?aF ?aB ?aS ?aL ?_; (case aR => repeat (first | exact (Kd.R_reads' HO328.out).2.2 | (with_reducible refine Kd.C_alloc ?_ _) | (with_reducible refine Kd.C_drewN ?_ _) | (with_reducible refine Kd.C_drew ?_))); (case aB => exact bl_); (case aF => exact (fun k_ hk => Kd.fresh' (Kd.R_lt (mv_ HO328.out)) k_ hk)); (case aO => exact (by refine mv_ ?_; exact Kd.R_mono HO_3.out (fun _ hk => hk.2))); (case aS => exact (below_size bl_)); (case aL => have := LMc15.out; omega); intro v330 w19 ho hb hg hat; rw [← Ny329.out] at ho; have HO331 := Aside0.mk (ho); replace HB := Aside0.mk (hb); replace HO328 := Aside0.mk (Kd.R_after (ok := (fun _ => True)) (mv_ HO328.out) hg hat); clear HO_3; clear ho hb hg hat))
     go_ret
     exact ⟨_, er_, by refine mv_ ?_; exact Kd.R_mono HO331.out (fun _ hk => trivial), bl_⟩

/-! ### palaverref03_Sign: function 64 -/
def palaverref03_Sign.l0 : Nat → ByteArray → Int → List Int → List ByteArray → Int → Option (List ByteArray)
 | 0, _, _, _, _, _ => none
 | k + 1, x0, x1, x7, x8, x9 => if x9 < 67 then ((palaverref03_Secret.f k x0 x1 x9).bind fun t335 => (if 0 ≤ x9 then (if x9 < (x7.length : Int) then ((palaverref03_Chain.f k x9 t335 (rd x7 x9)).bind fun t337 => (if x8.length < 8796093022208 then (palaverref03_Sign.l0 k x0 x1 x7 (x8 ++ [t337]) (wrap64 (x9 + 1))) else (none))) else (none)) else (none))) else (some x8)
def palaverref03_Sign.f (k : Nat) (a0 : ByteArray) (a1 : Int) (a2 : ByteArray) : Option (List ByteArray) := (palaverref03_Digits.f k a2).bind fun t332 => (palaverref03_Sign.l0 k a0 a1 t332 ([] : List ByteArray) 0)
theorem palaverref03_Sign.mono_l : ∀ k, (∀ y0 y1 y2 y3 y4, LeO (palaverref03_Sign.l0 k y0 y1 y2 y3 y4) (palaverref03_Sign.l0 (k + 1) y0 y1 y2 y3 y4))
 | 0 => fun _ _ _ _ _ r h => by simp [palaverref03_Sign.l0] at h
 | k + 1 => by
  have ih0 := palaverref03_Sign.mono_l k
  ·intro y0 y1 y2 y3 y4
   unfold palaverref03_Sign.l0
   repeat' first
   | (with_reducible exact ih0 _ _ _ _ _)
   | (with_reducible exact palaverref03_Chain.mono _ _ _ _)
   | (with_reducible exact palaverref03_Digits.mono _ _)
   | (with_reducible exact palaverref03_Secret.mono _ _ _ _)
   | (with_reducible exact LeO.refl _)
   | (with_reducible exact LeO.none _)
   | (with_reducible refine LeO.ite ?_ ?_)
   | (with_reducible refine LeO.bind ?_ (fun _ => ?_))
   | exact ih0 _ _ _ _ _
   | exact palaverref03_Chain.mono _ _ _ _
   | exact palaverref03_Digits.mono _ _
   | exact palaverref03_Secret.mono _ _ _ _
   | exact LeO.none _
   | refine LeO.ite ?_ ?_
   | refine LeO.bind ?_ (fun _ => ?_)
theorem palaverref03_Sign.mono : ∀ a0 a1 a2 k, LeO (palaverref03_Sign.f k a0 a1 a2) (palaverref03_Sign.f (k + 1) a0 a1 a2) := by
 intro a0 a1 a2 k
 have ih0 := palaverref03_Sign.mono_l k
 unfold palaverref03_Sign.f
 repeat' first
  | (with_reducible exact ih0 _ _ _ _ _)
  | (with_reducible exact palaverref03_Chain.mono _ _ _ _)
  | (with_reducible exact palaverref03_Digits.mono _ _)
  | (with_reducible exact palaverref03_Secret.mono _ _ _ _)
  | (with_reducible exact LeO.refl _)
  | (with_reducible exact LeO.none _)
  | (with_reducible refine LeO.ite ?_ ?_)
  | (with_reducible refine LeO.bind ?_ (fun _ => ?_))
  | exact ih0 _ _ _ _ _
  | exact palaverref03_Chain.mono _ _ _ _
  | exact palaverref03_Digits.mono _ _
  | exact palaverref03_Secret.mono _ _ _ _
  | exact LeO.none _
  | refine LeO.ite ?_ ?_
  | refine LeO.bind ?_ (fun _ => ?_)
def palaverref03_Sign.T6 : Bool × List (List Nat × List Nat) := (true, [([], []), ([], []), ([], []), ([], []), ([], []), ([2, 3, 4], [2, 3, 4]), ([], []), ([], []), ([6, 7], [6, 7]), ([8], [8]), ([1, 5, 9, 5], [1, 5, 9]), ([10], [10]), ([0, 11, 10], [0, 11]), ([12, 12, 0, 1, 2, 3, 4, 5, 6, 7, 8, 9, 10, 11, 12], [0, 12])])
def palaverref03_Sign.B6 : List Nat := [0, 0, 0, 0, 0, 28, 0, 0, 192, 448, 1022, 2046, 4095, 8191]
theorem palaverref03_Sign.tab6 : rtab .any (opsOf Tryz.f64 6) = palaverref03_Sign.T6 := by kernel_rfl
theorem palaverref03_Sign.bits6 : waitsOk palaverref03_Sign.T6.2 palaverref03_Sign.B6 = true := by kernel_rfl
set_option maxHeartbeats 64000000 in
set_option maxRecDepth 100000 in
theorem palaverref03_Sign.calls (k : Nat) (a0 : ByteArray) (a1 : Int) (a2 : ByteArray) (r : List ByteArray) (w : World) (h : palaverref03_Sign.f k a0 a1 a2 = some r) :
 Calls Tryz.prog 64 #[.string a0, .int .i64 a1, .string a2] w fun e w' => ∃ v0_ : Value, e = .returned (v0_) ∧ Kd.R Kd.string 9 w' w.heap.size (fun _ => True) v0_ r ∧ Below w.heap.size w w' := by
 have HB := Aside0.mk (Below.refl w.heap.size w)
 have H : ((palaverref03_Digits.f k a2).bind fun t332 => (palaverref03_Sign.l0 k a0 a1 t332 ([] : List ByteArray) 0)) = some r := h
 clear h
 revert H; refine oa_ fun t332 A4 H => ?_
 have H' := Aside0.mk H
 clear H
 go_enter Tryz.func64, Tryz.ntmps64
 go_wp2_with (first | ((with_reducible refine gate_callee (f := 66) rfl ?_); refine gL_ 11 Tryz.func66 #[.string a2] ?_; (with_reducible refine (palaverref03_Digits.calls k a2 t332 _ A4.out).mono ?_); rintro e w5 ⟨v333, rfl, ho0, hb⟩; refine ⟨_, rfl, ?_⟩; have HO334 := Aside0.mk (Kd.R_lower ho0 (below_size bl_)); replace HB := Aside0.mk (below_step bl_ hb); (try clear hb); (try clear hb2); (try clear hk); (try clear hi); (try clear ho0)))
 go_loopg [8, 9] k (fun kq v8 v9 w' => ∃ (x8_1 : List ByteArray) (x9_1 : Int), v9 = .int .i64 x9_1 ∧ Aside0 (palaverref03_Sign.l0 kq a0 a1 t332 x8_1 x9_1 = some r) ∧ Aside0 (kq ≤ k) ∧ Aside0 (Kd.R (Kd.int .i64) 3 w' w.heap.size (fun _ => True) v333 t332) ∧ Aside0 (Kd.R Kd.string 9 w' w.heap.size (fun _ => True) v8 x8_1) ∧ Aside0 (Below w.heap.size w w'))
 case atStart => exact ⟨(([] : List ByteArray)), (0), vq_, H', ⟨Nat.le_refl _⟩, ⟨mv_ HO334.out⟩, ⟨by first | exact Kd.R_nil _ _ _ _ _ | exact Kd.N_nil _ _ _ _ _ | exact Kd.V_nil _ _ _ _ _ | exact Kd.Q_nil _ _ _ _ _ | exact Kd.S_nil _ _ _ _ _⟩, ⟨bl_⟩⟩
 case round =>
  clear H'
  (try clear p2)
  obtain ⟨x8_1, x9_1, rfl, HA, HK1, HO_7, HO_8, HB⟩ := hrel
  cases gk with
  | zero => exact absurd HA.out (by simp [palaverref03_Sign.l0])
  | succ k1 =>
   have H := HA.out
   clear HA
   simp only [palaverref03_Sign.l0] at H
   by_cases c6 : x9_1 < 67
   ·rw [if_pos c6] at H
    have c6b0 : decide (x9_1 < 67) = true := decide_eq_true c6
    clear c6
    revert H; refine oa_ fun t335 A7 => nd_ fun c8 c8b0 => nd_ fun c9 c9b0 => oa_ fun t337 A10 => nc_ fun c11 H => ?_
    have LMc11 := Aside0.mk c11
    clear c8 c9 c11
    generalize e_ : (x8_1 ++ [t337] : List ByteArray) = y338 at H
    have Ny338 := Aside0.mk e_.symm
    clear e_
    have H' := Aside0.mk H
    clear H
    try go_wp2
    replace HB := Aside0.mk (below_drew1 HB.out)
    replace HO_8 := Aside0.mk (Kd.R_drew HO_8.out)
    replace HO_7 := Aside0.mk (Kd.R_drew HO_7.out)
    obtain ⟨Ao13, co13, eo13⟩ := Kd.R_slice HO_7.out
    (first | subst eo13 | (injection eo13 with f1_ f2_ f3_; have f4_ := f1_.symm; have f5_ := f3_.symm; clear f1_ f2_ f3_; subst f4_; subst f5_))
    have p336 : 0 ≤ (x9_1 : Int) := ae_
    have q336 : x9_1 < (t332.length : Int) := ae_
    obtain ⟨ad336, e336, hx336_0⟩ := Kd.at_int (Kd.R_reads' HO_7.out).2.2 x9_1 p336 q336
    cases e336
    replace p336 := eq_true p336
    replace q336 := eq_true q336
    refine start_ (n := 14) (S := fun w' => w'.cell? (ad336.add (x9_1).toNat) = some (.int .i64 (rd t332 x9_1))) (ds := [11, 12]) #[false, false, false, false, false, false, false, false, false, false, false, false, false, false] (by kernel_rfl) rfl rfl (hx336_0) (fun hHeld => ?_); refine with_tabW palaverref03_Sign.tab6 palaverref03_Sign.bits6 (fun HT_ HW_ => ?_)
    generalize wr.drew = w12 at HO_7 HO_8 HB hx336_0 hHeld ⊢
    refine runs_ [(0, some 16), (1, some 17), (2, some 18), (3, some 19), (4, some 20), (6, some 22), (7, some 23), (8, some 24)] ?_
    iterate 8 (refine pL_ ?_)
    refine runsE_ ?_
    refine take_ (i := 9) (N := some 25) (v := ?_) (a' := ?_) #[true, true, true, true, true, false, true, true, true, true, false, false, false, false] rfl rfl (take_ofW HT_.out HW_.out (by kernel_rfl)) (fun _ _ _ h => h) (Or.inl ⟨by rfl, ?_⟩) hHeld ?_ ?_
    rotate_left
    ·intro w' s0
     go_simp
     with_reducible rfl
    rotate_left
    ·simp only [pr_]
     rfl
    refine one_ (i := 5) (N := some 21) #[true, true, true, true, true, true, true, true, true, true, false, false, false, false] rfl rfl (one_of HT_.out (by kernel_rfl)) (by decide) (fun K hK => ?_)
    refine goes_ Tryz.func101 (by kernel_rfl) rfl #[.string a0, .int .i64 a1, .int .i64 x9_1] (by rfl) rfl rfl gm1_ ?_
    with_reducible refine (palaverref03_Secret.calls k1 a0 a1 x9_1 t335 _ A7.out).mono ?_
    rintro e w14 ⟨rfl, hb⟩
    have HS0_ := (hb.cell (World.block_lt_of_cell? _ _ (hHeld))).trans (hHeld)
    refine ⟨_, rfl, ?_⟩
    replace HB := Aside0.mk (below_step bl_ hb)
    replace HO_8 := Aside0.mk (Kd.R_below (mv_ HO_8.out) hb)
    replace HO_7 := Aside0.mk (Kd.R_below (mv_ HO_7.out) hb)
    (try clear hb)
    (try clear hb2)
    (try clear hk)
    (try clear hi)
    refine hK.out _ _ (HS0_) (fun hHeld => ?_)
    clear hK K
    refine norm_ (a' := ?_) ?_ ?_
    rotate_left
    ·show Act.put _ (some 21) _ = _
     simp only [pr_]
     rfl
    refine one_ (i := 10) (N := some 26) #[true, true, true, true, true, true, true, true, true, true, true, false, false, false] rfl rfl (one_of HT_.out (by kernel_rfl)) (by decide) (fun K hK => ?_)
    refine goes_ Tryz.func100 (by kernel_rfl) rfl #[.int .i64 x9_1, .string t335, .int .i64 (rd t332 x9_1)] (by rfl) rfl rfl gm1_ ?_
    with_reducible refine (palaverref03_Chain.calls k1 x9_1 t335 (rd t332 x9_1) t337 _ A10.out).mono ?_
    rintro e w15 ⟨rfl, hb⟩
    have HS0_ := (hb.cell (World.block_lt_of_cell? _ _ (hHeld))).trans (hHeld)
    refine ⟨_, rfl, ?_⟩
    replace HB := Aside0.mk (below_step bl_ hb)
    replace HO_8 := Aside0.mk (Kd.R_below (mv_ HO_8.out) hb)
    replace HO_7 := Aside0.mk (Kd.R_below (mv_ HO_7.out) hb)
    (try clear hb)
    (try clear hb2)
    (try clear hk)
    (try clear hi)
    refine hK.out _ _ (HS0_) (fun hHeld => ?_)
    clear hK K
    refine norm_ (a' := ?_) ?_ ?_
    rotate_left
    ·show Act.put _ (some 26) _ = _
     simp only [pr_]
     rfl
    refine last_ (i := 11) (N := some 27) #[true, true, true, true, true, true, true, true, true, true, true, true, false, false] rfl rfl (one_of HT_.out (by kernel_rfl)) (by decide) (fun K hK => ?_)
    refine value_ (w1 := ?_) (v := ?_) (by rfl) rfl ?_ ?_
    rotate_left 2
    ·go_simp
     constructor
     ·rfl
     rfl
    refine hK.out _ _ ?_
    clear hK K
    refine norm_ (a' := ?_) ?_ ?_
    rotate_left
    ·show Act.put _ (some 27) _ = _
     simp only [pr_]
     rfl
    refine last_ (i := 12) (N := some 28) #[true, true, true, true, true, true, true, true, true, true, true, true, true, false] rfl rfl (one_of HT_.out (by kernel_rfl)) (by decide) (fun K hK => ?_)
    refine Kd.R_append_step Kd.string (w0 := w) w.heap.size (by rfl) (.tmp 16) (.tmp 27) 24 9 (.string ⟨#[]⟩) 16 rfl Tryz.underlying24 info9 rfl (by decide) (by omega) u8 x8_1 t337 [.string t337] (fun _ => True) (fun _ => False) rfl rfl ?aP (fun _ hk => hk.elim) ?aF ?aO ?aB ?aS ?aL ?_
    (case aP => exact rfl)
    (case aB => exact bl_)
    (case aF => exact (fun _ _ => trivial))
    (case aO => exact (mv_ HO_8.out))
    (case aS => exact (below_size bl_))
    (case aL => have := LMc11.out; omega)
    intro v339 w16 ho hb hg hat
    rw [← Ny338.out] at ho
    have HO340 := Aside0.mk (ho)
    replace HB := Aside0.mk (hb)
    replace HO_7 := Aside0.mk (Kd.R_over' (mv_ HO_7.out) (Kd.R_typed (mv_ HO_8.out)) (by decide) hg)
    clear HO_8
    clear ho hb hg hat
    refine hK.out _ _ ?_
    clear hK K
    refine norm_ (a' := ?_) ?_ ?_
    rotate_left
    ·show Act.put _ (some 28) _ = _
     simp only [pr_]
     rfl
    refine pure_ (i := 13) (N := some 8) (v := ?_) (a' := ?_) #[true, true, true, true, true, true, true, true, true, true, true, true, true, true] rfl rfl (any_of HT_.out (by kernel_rfl)) (fun _ _ _ h => h) (Or.inl ⟨by rfl, ?_⟩) ?_ ?_
    rotate_left
    ·intro w'
     go_simp
     with_reducible rfl
    rotate_left
    ·simp only [pr_]
     rfl
    refine done_ (done_of HT_.out (by kernel_rfl)) ?_
    try go_wp2
    go_roundg k1
    case measure => have := HK1.out; omega
    case rel => exact ⟨(y338), (wrap64 (x9_1 + 1)), vq_, H', ⟨by have := HK1.out; omega⟩, ⟨mv_ HO_7.out⟩, ⟨mv_ HO340.out⟩, ⟨bl_⟩⟩
   rw [if_neg c6] at H
   have c6b0 : decide (x9_1 < 67) = false := decide_eq_false c6
   clear c6
   obtain rfl := Option.some.inj H
   go_wp2
   go_ret
   exact ⟨_, er_, mv_ HO_8.out, bl_⟩

/-! ### palaverref04_Levels: function 98 -/
mutual
def palaverref04_Levels.l0 : Nat → List ByteArray → List (List ByteArray) → Option ((List (List ByteArray)))
 | 0, _, _ => none
 | k + 1, x0, x3 => if (x0.length : Int) > 1 then (palaverref04_Levels.l1 k x0 x3 ([] : List ByteArray) 0) else (some x3)
def palaverref04_Levels.l1 : Nat → List ByteArray → List (List ByteArray) → List ByteArray → Int → Option ((List (List ByteArray)))
 | 0, _, _, _, _ => none
 | k + 1, x0, x3, x4, x5 => if (wrap64 (x5 + 1)) < (x0.length : Int) then (if 0 ≤ x5 then (if x5 < (x0.length : Int) then (if 0 ≤ (wrap64 (x5 + 1)) then ((palaverref02_Tag.f k 4 (([rdOf ByteArray.empty x0 x5, rdOf ByteArray.empty x0 (wrap64 (x5 + 1))] : List ByteArray))).bind fun t349 => (if x4.length < 8796093022208 then (palaverref04_Levels.l1 k x0 x3 (x4 ++ [t349]) (wrap64 (x5 + 2))) else (none))) else (none)) else (none)) else (none)) else (if x3.length < 5864062014805 then (palaverref04_Levels.l0 k x4 (x3 ++ [x4])) else (none))
end
def palaverref04_Levels.f (k : Nat) (l0 : List ByteArray) : Option ((List (List ByteArray))) := palaverref04_Levels.l0 k l0 (([l0] : List (List ByteArray)))
theorem palaverref04_Levels.mono_l : ∀ k, (∀ y0 y1, LeO (palaverref04_Levels.l0 k y0 y1) (palaverref04_Levels.l0 (k + 1) y0 y1)) ∧ (∀ y0 y1 y2 y3, LeO (palaverref04_Levels.l1 k y0 y1 y2 y3) (palaverref04_Levels.l1 (k + 1) y0 y1 y2 y3))
 | 0 => ⟨fun _ _ r h => by simp [palaverref04_Levels.l0] at h, fun _ _ _ _ r h => by simp [palaverref04_Levels.l1] at h⟩
 | k + 1 => by
  obtain ⟨ih0, ih1⟩ := palaverref04_Levels.mono_l k
  refine ⟨?_, ?_⟩ <;> intros <;> (first | unfold palaverref04_Levels.l0 | unfold palaverref04_Levels.l1) <;> repeat' first
  | (with_reducible exact ih0 _ _)
  | (with_reducible exact ih1 _ _ _ _)
  | (with_reducible exact palaverref02_Tag.mono _ _ _)
  | (with_reducible exact LeO.refl _)
  | (with_reducible exact LeO.none _)
  | (with_reducible refine LeO.ite ?_ ?_)
  | (with_reducible refine LeO.bind ?_ (fun _ => ?_))
  | exact ih0 _ _
  | exact ih1 _ _ _ _
  | exact palaverref02_Tag.mono _ _ _
  | exact LeO.none _
  | refine LeO.ite ?_ ?_
  | refine LeO.bind ?_ (fun _ => ?_)
theorem palaverref04_Levels.mono : ∀ a0 k, LeO (palaverref04_Levels.f k a0) (palaverref04_Levels.f (k + 1) a0) := by
 intro a0 k
 obtain ⟨ih0, ih1⟩ := palaverref04_Levels.mono_l k
 unfold palaverref04_Levels.f
 repeat' first
  | (with_reducible exact ih0 _ _)
  | (with_reducible exact ih1 _ _ _ _)
  | (with_reducible exact palaverref02_Tag.mono _ _ _)
  | (with_reducible exact LeO.refl _)
  | (with_reducible exact LeO.none _)
  | (with_reducible refine LeO.ite ?_ ?_)
  | (with_reducible refine LeO.bind ?_ (fun _ => ?_))
  | exact ih0 _ _
  | exact ih1 _ _ _ _
  | exact palaverref02_Tag.mono _ _ _
  | exact LeO.none _
  | refine LeO.ite ?_ ?_
  | refine LeO.bind ?_ (fun _ => ?_)
def palaverref04_Levels.T7 : Bool × List (List Nat × List Nat) := (true, [([], []), ([], []), ([], []), ([1, 2], [1, 2]), ([3], [3]), ([], []), ([], []), ([6], [6]), ([5, 7], [5, 7]), ([8], [8]), ([4, 9], [4, 9]), ([10], [10]), ([11], [11]), ([0, 12, 11], [0, 12]), ([13, 13, 0, 1, 2, 3, 4, 5, 6, 7, 8, 9, 10, 11, 12, 13], [0, 13])])
def palaverref04_Levels.B7 : List Nat := [0, 0, 0, 6, 14, 0, 0, 64, 224, 480, 1022, 2046, 4094, 8191, 16383]
theorem palaverref04_Levels.tab7 : rtab .any (opsOf Tryz.f98 7) = palaverref04_Levels.T7 := by kernel_rfl
theorem palaverref04_Levels.bits7 : waitsOk palaverref04_Levels.T7.2 palaverref04_Levels.B7 = true := by kernel_rfl
set_option maxHeartbeats 64000000 in
set_option maxRecDepth 100000 in
theorem palaverref04_Levels.calls (k : Nat) (P0_ : Nat → Prop) (A0 : Option Addr) (c0 : Nat) (l0 : List ByteArray) (r : List (List ByteArray)) (w : World) (hs0 : Kd.V Kd.string 9 w w.heap.size (fun k_ => P0_ k_) (.slice A0 l0.length c0) l0) (h : palaverref04_Levels.f k l0 = some r) :
 Calls Tryz.prog 98 #[.slice A0 l0.length c0] w fun e w' => ∃ v0_ : Value, e = .returned (v0_) ∧ Kd.N (Kd.slice 9 Kd.string) 24 w' w.heap.size (fun k_ => (P0_ k_ ∨ w.heap.size ≤ k_)) v0_ r ∧ Below w.heap.size w w' := by
 have HO0 := Aside0.mk (show Kd.V Kd.string 9 w w.heap.size (fun k_ => (P0_ k_ ∨ w.heap.size ≤ k_)) (.slice A0 l0.length c0) l0 from Kd.V_mono hs0 (fun k_ hk => .inl hk))
 have HB := Aside0.mk (Below.refl w.heap.size w)
 have H : (palaverref04_Levels.l0 k l0 (([l0] : List (List ByteArray)))) = some r := h
 clear h
 generalize e_ : (([l0] : List (List ByteArray)) : List (List ByteArray)) = y341 at H
 have Ny341 := Aside0.mk e_.symm
 clear e_
 have H' := Aside0.mk H
 clear H
 go_enter Tryz.func98, Tryz.ntmps98
 go_wp2_with (first | ((with_reducible refine gate_dst (N := 7) rfl ?_); refine Kd.N_lit (Kd.slice 9 Kd.string) _ 24 ?hg (N' := 7) ?hd (xs := ([l0] : List (List ByteArray))) (inner := [.slice A0 l0.length c0]) (ok := (fun k_ => (P0_ k_ ∨ w.heap.size ≤ k_))) (okp := (fun k_ => (P0_ k_ ∨ w.heap.size ≤ k_))) ?hr ?hp (fun _ hk => hk) ((show ∀ k_, w.heap.size ≤ k_ → (fun k_ => (P0_ k_ ∨ w.heap.size ≤ k_)) k_ from fun k_ hk => (.inr (Nat.le_trans (below_size bl_) hk))) _ (Nat.le_refl _)) (Below.refl _ _) (Nat.le_refl _) (by simp) ?_; (case hd => rfl); (case hg => rfl); (case hr => exact gr_); (case hp => exact (Reps.one (show Kd.FK (Kd.slice 9 Kd.string) _ _ l0 [.slice A0 l0.length c0] from (Kd.FK_slice_mk (Kd.V_reads' (Kd.V_mono (ok' := (fun k_ => (P0_ k_ ∨ w.heap.size ≤ k_))) (HO0.out) (fun k_ hk => hk))).2.1 (Kd.V_F (Kd.V_mono (ok' := (fun k_ => (P0_ k_ ∨ w.heap.size ≤ k_))) (HO0.out) (fun k_ hk => hk))))) (Reps.none _ _))); intro v342 w2 ho3 hb hg_ hnew_; clear hg_ hnew_; (first | rw [← Ny341.out] at ho3 | (simp only [Int.reduceToNat] at ho3; rw [← Ny341.out] at ho3)); have HO343 := Aside0.mk (Kd.N_lower ho3 (below_size bl_)); replace HB := Aside0.mk (below_step bl_ hb); replace HO0 := Aside0.mk (Kd.V_elder' (by (with_reducible repeat (first | apply Kd.V_alloc | apply Kd.V_drewN | apply Kd.V_drew)); exact HO0.out) (Kd.N_base ho3) hb); clear hb ho3))
 go_loopg [0, 3] k (fun kq v0 v3 w' => ∃ (x0_1 : List ByteArray) (x3_1 : List (List ByteArray)), Aside0 (palaverref04_Levels.l0 kq x0_1 x3_1 = some r) ∧ Aside0 (kq ≤ k) ∧ Aside0 (Kd.V Kd.string 9 w' w.heap.size (fun k_ => (P0_ k_ ∨ w.heap.size ≤ k_) ∧ some k_ ≠ (v3 : Value).ownBlock) v0 x0_1) ∧ Aside0 (Kd.N (Kd.slice 9 Kd.string) 24 w' w.heap.size (fun k_ => (P0_ k_ ∨ w.heap.size ≤ k_)) v3 x3_1) ∧ Aside0 (Below w.heap.size w w'))
 case atStart => exact ⟨(l0), (y341), H', ⟨Nat.le_refl _⟩, ⟨by (with_reducible repeat (first | apply Kd.V_alloc | apply Kd.V_drewN | apply Kd.V_drew)); exact HO0.out⟩, ⟨by (with_reducible repeat (first | apply Kd.N_alloc | apply Kd.N_drewN | apply Kd.N_drew)); exact HO343.out⟩, ⟨bl_⟩⟩
 case round =>
  clear H'
  (try clear p2)
  obtain ⟨x0_1, x3_1, HA, HK1, HO_0, HO_3, HB⟩ := hrel
  cases gk with
  | zero => exact absurd HA.out (by simp [palaverref04_Levels.l0])
  | succ k1 =>
   have H := HA.out
   clear HA
   simp only [palaverref04_Levels.l0] at H
   by_cases c4 : (x0_1.length : Int) > 1
   ·rw [if_pos c4] at H
    have c4b0 : decide (1 < (x0_1.length : Int)) = true := decide_eq_true c4
    have c4b1 : decide (1 < x0_1.length) = true := decide_eq_true (by omega)
    clear c4
    have H' := Aside0.mk H
    clear H
    obtain ⟨Ao5, co5, eo5⟩ := Kd.V_slice HO_0.out
    subst eo5
    go_wp2
    go_loopg [4, 5] k1 (fun kq v4 v5 w' => ∃ (x4_2 : List ByteArray) (x5_2 : Int), v5 = .int .i64 x5_2 ∧ Aside0 (palaverref04_Levels.l1 kq x0_1 x3_1 x4_2 x5_2 = some r) ∧ Aside0 (kq ≤ k1) ∧ Aside0 (Kd.V Kd.string 9 w' w.heap.size (fun k_ => (P0_ k_ ∨ w.heap.size ≤ k_) ∧ some k_ ≠ (u3 : Value).ownBlock ∧ some k_ ≠ (v4 : Value).ownBlock) (.slice Ao5 x0_1.length co5) x0_1) ∧ Aside0 (Kd.N (Kd.slice 9 Kd.string) 24 w' w.heap.size (fun k_ => (P0_ k_ ∨ w.heap.size ≤ k_) ∧ some k_ ≠ (v4 : Value).ownBlock) u3 x3_1) ∧ Aside0 (Kd.R Kd.string 9 w' w.heap.size (fun k_ => (w.heap.size ≤ k_)) v4 x4_2) ∧ Aside0 (Below w.heap.size w w'))
    case atStart => exact ⟨(([] : List ByteArray)), (0), vq_, H', ⟨Nat.le_refl _⟩, ⟨by (with_reducible repeat (first | apply Kd.V_alloc | apply Kd.V_drewN | apply Kd.V_drew)); exact Kd.V_mono HO_0.out (fun _ hk => ⟨hk.1, ⟨hk.2, (by simp [Value.ownBlock])⟩⟩)⟩, ⟨by (with_reducible repeat (first | apply Kd.N_alloc | apply Kd.N_drewN | apply Kd.N_drew)); exact Kd.N_mono HO_3.out (fun _ hk => ⟨hk, (by simp [Value.ownBlock])⟩)⟩, ⟨by first | exact Kd.R_nil _ _ _ _ _ | exact Kd.N_nil _ _ _ _ _ | exact Kd.V_nil _ _ _ _ _ | exact Kd.Q_nil _ _ _ _ _ | exact Kd.S_nil _ _ _ _ _⟩, ⟨bl_⟩⟩
    case round =>
     clear H'
     (try clear p2); (try clear c4); (try clear c4b0); (try clear c4b1); (try clear p2)
     obtain ⟨x4_2, x5_2, rfl, HA, HK2, HO_0, HO_3, HO_4, HB⟩ := hrel
     cases gk with
     | zero => exact absurd HA.out (by simp [palaverref04_Levels.l1])
     | succ k2 =>
      have H := HA.out
      clear HA
      simp only [palaverref04_Levels.l1] at H
      by_cases c6 : (wrap64 (x5_2 + 1)) < (x0_1.length : Int)
      ·rw [if_pos c6] at H
       have c6b0 : decide ((wrap64 (x5_2 + 1)) < (x0_1.length : Int)) = true := decide_eq_true c6
       clear c6
       revert H; refine nd_ fun c7 c7b0 => nd_ fun c8 c8b0 H => ?_
       clear c7 c8
       generalize hji9 : (wrap64 (x5_2 + 1)) = ji9 at H
       (try rw [hji9] at c6b0)
       have hji9w := (i64_w _).trans hji9
       revert H; refine nd_ fun c10 c10b0 H => ?_
       clear c10
       generalize e_ : (([rdOf ByteArray.empty x0_1 x5_2, rdOf ByteArray.empty x0_1 (ji9)] : List ByteArray) : List ByteArray) = y346 at H
       have Ny346 := Aside0.mk e_.symm
       clear e_
       revert H; refine oa_ fun t349 A11 => nc_ fun c12 H => ?_
       have LMc12 := Aside0.mk c12
       clear c12
       generalize e_ : (x4_2 ++ [t349] : List ByteArray) = y350 at H
       have Ny350 := Aside0.mk e_.symm
       clear e_
       have H' := Aside0.mk H
       clear H
       try go_wp2
       replace HB := Aside0.mk (below_drew1 HB.out)
       replace HO_4 := Aside0.mk (Kd.R_drew HO_4.out)
       replace HO_3 := Aside0.mk (Kd.N_drew HO_3.out)
       replace HO_0 := Aside0.mk (Kd.V_drew HO_0.out)
       have p344 : 0 ≤ (x5_2 : Int) := ae_
       have q344 : x5_2 < (x0_1.length : Int) := ae_
       obtain ⟨ad344, e344, hx344_0⟩ := Kd.at_string (Kd.V_reads' HO_0.out).2.2 x5_2 p344 q344
       cases e344
       replace p344 := eq_true p344
       replace q344 := eq_true q344
       have p345 : 0 ≤ ((ji9) : Int) := ae_
       have q345 : (ji9) < (x0_1.length : Int) := ae_
       obtain ⟨ad345, e345, hx345_0⟩ := Kd.at_string (Kd.V_reads' HO_0.out).2.2 (ji9) p345 q345
       obtain rfl : ad344 = ad345 := (by injection e345)
       replace p345 := eq_true p345
       replace q345 := eq_true q345
       refine start_ (n := 15) (S := fun w' => w'.cell? (ad344.add (x5_2).toNat) = some (.string (rdOf ByteArray.empty x0_1 x5_2)) ∧ w'.cell? (ad344.add ((ji9)).toNat) = some (.string (rdOf ByteArray.empty x0_1 (ji9)))) (ds := [12, 13]) #[false, false, false, false, false, false, false, false, false, false, false, false, false, false, false] (by kernel_rfl) rfl rfl ⟨hx344_0, hx345_0⟩ (fun hHeld => ?_); refine with_tabW palaverref04_Levels.tab7 palaverref04_Levels.bits7 (fun HT_ HW_ => ?_)
       generalize wr.drew = w13 at HO_0 HO_3 HO_4 HB hx344_0 hx345_0 hHeld ⊢
       refine runs_ [(0, some 18), (1, some 19), (2, some 20), (3, some 21), (5, some 23), (6, some 24), (7, some 25), (8, some 26)] ?_
       iterate 8 (refine pL_ ?_)
       refine runsE_ ?_
       refine runs_ [(4, some 22), (9, some 27)] ?_
       iterate 2 (refine takeL_ (v := ?_) (a' := ?_) rfl rfl (take_ofW HT_.out HW_.out (by kernel_rfl)) (Or.inl ⟨by rfl, ?_⟩) hHeld ?_ ?_ (fun _ _ _ h => h); rotate_left; (rintro w' ⟨s0, s1⟩; go_simp; with_reducible rfl); rotate_left; (simp only [pr_]; rfl))
       refine runsE_ ?_
       refine one_ (i := 10) (N := some 28) #[true, true, true, true, true, true, true, true, true, true, true, false, false, false, false] rfl rfl (one_of HT_.out (by kernel_rfl)) (by decide) (fun K hK => ?_)
       refine Kd.R_lit_step Kd.string _ 9 ?hg (N := 28) ?hd (xs := ([rdOf ByteArray.empty x0_1 x5_2, rdOf ByteArray.empty x0_1 (ji9)] : List ByteArray)) (inner := [.string (rdOf ByteArray.empty x0_1 x5_2), .string (rdOf ByteArray.empty x0_1 (ji9))]) (ok := fun _ => True) (okp := fun _ => True) ?hr ?hp (fun _ hk => hk) trivial (Below.refl _ _) (Nat.le_refl _) (by simp) ?_; (case hd => rfl); (case hg => rfl); (case hr => exact gr_); (case hp => exact (Reps.one (show Kd.M Kd.string _ _ _ (rdOf ByteArray.empty x0_1 x5_2) [.string (rdOf ByteArray.empty x0_1 x5_2)] from rfl) (Reps.one (show Kd.M Kd.string _ _ _ (rdOf ByteArray.empty x0_1 (ji9)) [.string (rdOf ByteArray.empty x0_1 (ji9))] from rfl) (Reps.none _ _))))
       intro v347 w14 ho15 hb hg_ hnew_
       have HS0_ := (hb.cell (World.block_lt_of_cell? _ _ (hHeld.1))).trans (hHeld.1)
       have HS1_ := (hb.cell (World.block_lt_of_cell? _ _ (hHeld.2))).trans (hHeld.2)
       clear hg_ hnew_
       (first | rw [← Ny346.out] at ho15 | (simp only [Int.reduceToNat] at ho15; rw [← Ny346.out] at ho15))
       have HO348 := Aside0.mk (Kd.R_lower (Kd.R_new' (Kd.R_newM (M := fun k_ => (w.heap.size ≤ k_)) ho15 (below_size bl_) (fun k_ h_ => h_)) (Kd.R_lt (mv_ HO_4.out))) (below_size bl_))
       replace HB := Aside0.mk (below_step bl_ hb)
       replace HO_4 := Aside0.mk (Kd.R_elder' (mv_ HO_4.out) (Kd.R_base ho15) hb)
       replace HO_3 := Aside0.mk (Kd.N_elder' (by (with_reducible repeat (first | apply Kd.N_alloc | apply Kd.N_drewN | apply Kd.N_drew)); exact HO_3.out) (Kd.R_base ho15) hb)
       replace HO_0 := Aside0.mk (Kd.V_elder' (by (with_reducible repeat (first | apply Kd.V_alloc | apply Kd.V_drewN | apply Kd.V_drew)); exact HO_0.out) (Kd.R_base ho15) hb)
       clear hb ho15
       obtain ⟨Ao16, co16, eo16⟩ := Kd.R_slice HO348.out
       (first | subst eo16 | (injection eo16 with f1_ f2_ f3_; have f4_ := f1_.symm; have f5_ := f3_.symm; clear f1_ f2_ f3_; subst f4_; subst f5_))
       refine hK.out _ _ ⟨HS0_, HS1_⟩ (fun hHeld => ?_)
       clear hK K
       refine norm_ (a' := ?_) ?_ ?_
       rotate_left
       ·show Act.put _ (some 28) _ = _
        simp only [pr_]
        rfl
       refine one_ (i := 11) (N := some 29) #[true, true, true, true, true, true, true, true, true, true, true, true, false, false, false] rfl rfl (one_of HT_.out (by kernel_rfl)) (by decide) (fun K hK => ?_)
       refine goes_ Tryz.func34 (by kernel_rfl) rfl #[.int .i64 4, .slice Ao16 y346.length co16] (by rfl) rfl rfl gm1_ ?_
       with_reducible refine (palaverref02_Tag.calls k2 4 _ _ y346 t349 _ ?side1 ?side2 A11.out).mono ?_
       (case side1 => repeat (first | exact (Kd.R_reads' HO348.out).2.2 | (with_reducible refine Kd.C_alloc ?_ _) | (with_reducible refine Kd.C_drewN ?_ _) | (with_reducible refine Kd.C_drew ?_)))
       (case side2 => exact (Kd.R_reads' HO348.out).2.1)
       rintro e w17 ⟨rfl, hb⟩
       have HS0_ := (hb.cell (World.block_lt_of_cell? _ _ (hHeld.1))).trans (hHeld.1)
       have HS1_ := (hb.cell (World.block_lt_of_cell? _ _ (hHeld.2))).trans (hHeld.2)
       refine ⟨_, rfl, ?_⟩
       replace HB := Aside0.mk (below_step bl_ hb)
       replace HO348 := Aside0.mk (Kd.R_below (mv_ HO348.out) hb)
       replace HO_4 := Aside0.mk (Kd.R_below (mv_ HO_4.out) hb)
       replace HO_3 := Aside0.mk (Kd.N_below (by (with_reducible repeat (first | apply Kd.N_alloc | apply Kd.N_drewN | apply Kd.N_drew)); exact HO_3.out) hb)
       replace HO_0 := Aside0.mk (Kd.V_below (by (with_reducible repeat (first | apply Kd.V_alloc | apply Kd.V_drewN | apply Kd.V_drew)); exact HO_0.out) hb)
       (try clear hb)
       (try clear hb2)
       (try clear hk)
       (try clear hi)
       refine hK.out _ _ ⟨HS0_, HS1_⟩ (fun hHeld => ?_)
       clear hK K
       refine norm_ (a' := ?_) ?_ ?_
       rotate_left
       ·show Act.put _ (some 29) _ = _
        simp only [pr_]
        rfl
       refine last_ (i := 12) (N := some 30) #[true, true, true, true, true, true, true, true, true, true, true, true, true, false, false] rfl rfl (one_of HT_.out (by kernel_rfl)) (by decide) (fun K hK => ?_)
       refine value_ (w1 := ?_) (v := ?_) (by rfl) rfl ?_ ?_
       rotate_left 2
       ·go_simp
        constructor
        ·rfl
        rfl
       refine hK.out _ _ ?_
       clear hK K
       refine norm_ (a' := ?_) ?_ ?_
       rotate_left
       ·show Act.put _ (some 30) _ = _
        simp only [pr_]
        rfl
       refine last_ (i := 13) (N := some 31) #[true, true, true, true, true, true, true, true, true, true, true, true, true, true, false] rfl rfl (one_of HT_.out (by kernel_rfl)) (by decide) (fun K hK => ?_)
       refine Kd.R_append_step Kd.string (w0 := w) w.heap.size (by rfl) (.tmp 18) (.tmp 30) 24 9 (.string ⟨#[]⟩) 16 rfl Tryz.underlying24 info9 rfl (by decide) (by omega) u4 x4_2 t349 [.string t349] (fun k_ => (w.heap.size ≤ k_) ∧ some k_ ≠ (.slice Ao16 y346.length co16 : Value).ownBlock) (fun _ => False) rfl rfl ?aP (fun _ hk => hk.elim) ?aF ?aO ?aB ?aS ?aL ?_
       (case aP => exact rfl)
       (case aB => exact bl_)
       (case aF => exact (fun k_ hk => ⟨(Nat.le_trans (below_size bl_) hk), Kd.fresh' (Kd.R_lt (mv_ HO348.out)) k_ hk⟩))
       (case aO => exact (mv_ HO_4.out))
       (case aS => exact (below_size bl_))
       (case aL => have := LMc12.out; omega)
       intro v351 w18 ho hb hg hat
       rw [← Ny350.out] at ho
       have HO352 := Aside0.mk (ho)
       replace HB := Aside0.mk (hb)
       replace HO348 := Aside0.mk (Kd.R_after (ok := (fun k_ => (w.heap.size ≤ k_))) (by refine mv_ ?_; exact Kd.R_mono HO348.out (fun _ hk => ⟨hk.1.1, hk.2⟩)) hg hat)
       replace HO_3 := Aside0.mk (Kd.N_afterv (ok := (fun k_ => (P0_ k_ ∨ w.heap.size ≤ k_) ∧ some k_ ≠ (.slice Ao16 y346.length co16 : Value).ownBlock)) (by (with_reducible repeat (first | apply Kd.N_alloc | apply Kd.N_drewN | apply Kd.N_drew)); exact Kd.N_mono HO_3.out (fun _ hk => ⟨⟨hk.1.1, hk.2⟩, hk.1.2⟩)) hg hat)
       replace HO_0 := Aside0.mk (Kd.V_afterv (ok := (fun k_ => (P0_ k_ ∨ w.heap.size ≤ k_) ∧ some k_ ≠ (u3 : Value).ownBlock ∧ some k_ ≠ (.slice Ao16 y346.length co16 : Value).ownBlock)) (by (with_reducible repeat (first | apply Kd.V_alloc | apply Kd.V_drewN | apply Kd.V_drew)); exact Kd.V_mono HO_0.out (fun _ hk => ⟨⟨hk.1.1, ⟨hk.1.2.1, hk.2⟩⟩, hk.1.2.2⟩)) hg hat)
       clear HO_4
       clear ho hb hg hat
       refine hK.out _ _ ?_
       clear hK K
       refine norm_ (a' := ?_) ?_ ?_
       rotate_left
       ·show Act.put _ (some 31) _ = _
        simp only [pr_]
        rfl
       refine pure_ (i := 14) (N := some 4) (v := ?_) (a' := ?_) #[true, true, true, true, true, true, true, true, true, true, true, true, true, true, true] rfl rfl (any_of HT_.out (by kernel_rfl)) (fun _ _ _ h => h) (Or.inl ⟨by rfl, ?_⟩) ?_ ?_
       rotate_left
       ·intro w'
        go_simp
        with_reducible rfl
       rotate_left
       ·simp only [pr_]
        rfl
       refine done_ (done_of HT_.out (by kernel_rfl)) ?_
       try go_wp2
       go_roundg k2
       case measure => have := HK1.out; have := HK2.out; omega
       case rel => exact ⟨(y350), (wrap64 (x5_2 + 2)), vq_, H', ⟨by have := HK1.out; have := HK2.out; omega⟩, ⟨by (with_reducible repeat (first | apply Kd.V_alloc | apply Kd.V_drewN | apply Kd.V_drew)); exact Kd.V_mono HO_0.out (fun _ hk => ⟨hk.1.1, ⟨hk.1.2.1, hk.2⟩⟩)⟩, ⟨by (with_reducible repeat (first | apply Kd.N_alloc | apply Kd.N_drewN | apply Kd.N_drew)); exact Kd.N_mono HO_3.out (fun _ hk => ⟨hk.1.1, hk.2⟩)⟩, ⟨by refine mv_ ?_; exact Kd.R_mono HO352.out (fun _ hk => hk.1)⟩, ⟨bl_⟩⟩
      rw [if_neg c6] at H
      have c6b0 : decide ((wrap64 (x5_2 + 1)) < (x0_1.length : Int)) = false := decide_eq_false c6
      clear c6
      revert H; refine nc_ fun c19 H => ?_
      have LMc19 := Aside0.mk c19
      clear c19
      generalize e_ : (x3_1 ++ [x4_2] : List (List ByteArray)) = y354 at H
      have Ny354 := Aside0.mk e_.symm
      clear e_
      have H' := Aside0.mk H
      clear H
      have HO353 := Aside0.mk (show Kd.V Kd.string 9 _ w.heap.size _ _ _ from Kd.V_mono (ok' := (fun k_ => ((P0_ k_ ∨ w.heap.size ≤ k_) ∧ some k_ ≠ (u3 : Value).ownBlock))) (Kd.R_V (Kd.R_apart' (HO_4.out) (Kd.N_typed HO_3.out) (by decide))) (fun k_ hk => ⟨(.inr (hk.1)), hk.2⟩))
      clear HO_4
      obtain ⟨Ao21, co21, eo21⟩ := Kd.V_slice HO353.out
      subst eo21
      go_wp2_with (first | ((with_reducible refine gate_builtin (b := .append) (xs := #[.tmp 33, .tmp 35]) rfl ?_); at_builtin; refine Kd.N_append (Kd.slice 9 Kd.string) (w0 := w) w.heap.size rfl (.tmp 33) (.tmp 35) 135 24 (.slice none 0 0) 24 rfl Tryz.underlying135 info24 rfl (by decide) (by omega) u3 x3_1 x4_2 [.slice Ao21 x4_2.length co21] (fun k_ => (P0_ k_ ∨ w.heap.size ≤ k_)) (fun k_ => ((fun k_ => (P0_ k_ ∨ w.heap.size ≤ k_))) k_ ∧ some k_ ≠ (u3 : Value).ownBlock) rfl rfl ?aP (fun _ hk => hk) ?aF ?aO ?aB ?aS ?aL ?_; (case aP => exact (Kd.FK_slice_mk (Kd.V_reads' (Kd.V_mono (ok' := (fun k_ => ((fun k_ => (P0_ k_ ∨ w.heap.size ≤ k_))) k_ ∧ some k_ ≠ (u3 : Value).ownBlock)) (HO353.out) (fun k_ hk => ⟨hk.1, hk.2⟩))).2.1 (Kd.V_F (Kd.V_mono (ok' := (fun k_ => ((fun k_ => (P0_ k_ ∨ w.heap.size ≤ k_))) k_ ∧ some k_ ≠ (u3 : Value).ownBlock)) (HO353.out) (fun k_ hk => ⟨hk.1, hk.2⟩))))); (case aB => exact bl_); (case aF => exact (fun k_ hk => (.inr (Nat.le_trans (below_size bl_) hk)))); (case aO => exact (by (with_reducible repeat (first | apply Kd.N_alloc | apply Kd.N_drewN | apply Kd.N_drew)); exact Kd.N_mono HO_3.out (fun _ hk => hk.1))); (case aS => exact (below_size bl_)); (case aL => have := LMc19.out; omega); intro v355 w20 ho hb hg hat; rw [← Ny354.out] at ho; have HO356 := Aside0.mk (ho); replace HB := Aside0.mk (hb); replace HO353 := Aside0.mk (Kd.V_afterv (ok := (fun k_ => (P0_ k_ ∨ w.heap.size ≤ k_))) (by (with_reducible repeat (first | apply Kd.V_alloc | apply Kd.V_drewN | apply Kd.V_drew)); exact HO353.out) hg hat); replace HO_0 := Aside0.mk (Kd.V_afterv (ok := (fun k_ => (P0_ k_ ∨ w.heap.size ≤ k_))) (by (with_reducible repeat (first | apply Kd.V_alloc | apply Kd.V_drewN | apply Kd.V_drew)); exact Kd.V_mono HO_0.out (fun _ hk => ⟨hk.1, hk.2.1⟩)) hg hat); clear HO_3; clear ho hb hg hat))
      go_roundg k2
      case measure => have := HK1.out; have := HK2.out; omega
      case rel => exact ⟨(x4_2), (y354), H', ⟨by have := HK1.out; have := HK2.out; omega⟩, ⟨by (with_reducible repeat (first | apply Kd.V_alloc | apply Kd.V_drewN | apply Kd.V_drew)); exact HO353.out⟩, ⟨by (with_reducible repeat (first | apply Kd.N_alloc | apply Kd.N_drewN | apply Kd.N_drew)); exact HO356.out⟩, ⟨bl_⟩⟩
   rw [if_neg c4] at H
   have c4b0 : decide (1 < (x0_1.length : Int)) = false := decide_eq_false c4
   have c4b1 : decide (1 < x0_1.length) = false := decide_eq_false (by omega)
   clear c4
   obtain rfl := Option.some.inj H
   obtain ⟨Ao22, co22, eo22⟩ := Kd.V_slice HO_0.out
   subst eo22
   go_wp2
   go_ret
   exact ⟨_, er_, by (with_reducible repeat (first | apply Kd.N_alloc | apply Kd.N_drewN | apply Kd.N_drew)); exact HO_3.out, bl_⟩

/-! ### palaverref04_Path: function 65 -/
def palaverref04_Path.l0 : Nat → Int → List (List ByteArray) → List ByteArray → Int → Option (List ByteArray)
 | 0, _, _, _, _ => none
 | k + 1, x1, x5, x6, x7 => if x7 < (wrap64 ((x5.length : Int) - 1)) then (if (Int.tmod x1 2) = 0 then (if 0 ≤ x7 then (if x7 < (x5.length : Int) then (if 0 ≤ (wrap64 (x1 + 1)) then (if (wrap64 (x1 + 1)) < ((rd_L4 x5 x7).length : Int) then (if x6.length < 8796093022208 then (palaverref04_Path.l0 k (wrap64 (Int.tdiv x1 2)) x5 (x6 ++ [rdOf ByteArray.empty (rd_L4 x5 x7) (wrap64 (x1 + 1))]) (wrap64 (x7 + 1))) else (none)) else (none)) else (none)) else (none)) else (none)) else (if 0 ≤ x7 then (if x7 < (x5.length : Int) then (if 0 ≤ (wrap64 (x1 - 1)) then (if (wrap64 (x1 - 1)) < ((rd_L4 x5 x7).length : Int) then (if x6.length < 8796093022208 then (palaverref04_Path.l0 k (wrap64 (Int.tdiv x1 2)) x5 (x6 ++ [rdOf ByteArray.empty (rd_L4 x5 x7) (wrap64 (x1 - 1))]) (wrap64 (x7 + 1))) else (none)) else (none)) else (none)) else (none)) else (none))) else (some x6)
def palaverref04_Path.f (k : Nat) (l0 : List ByteArray) (a1 : Int) : Option (List ByteArray) := (palaverref04_Levels.f k l0).bind fun t357 => (palaverref04_Path.l0 k a1 t357 ([] : List ByteArray) 0)
theorem palaverref04_Path.mono_l : ∀ k, (∀ y0 y1 y2 y3, LeO (palaverref04_Path.l0 k y0 y1 y2 y3) (palaverref04_Path.l0 (k + 1) y0 y1 y2 y3))
 | 0 => fun _ _ _ _ r h => by simp [palaverref04_Path.l0] at h
 | k + 1 => by
  have ih0 := palaverref04_Path.mono_l k
  ·intro y0 y1 y2 y3
   unfold palaverref04_Path.l0
   repeat' first
   | (with_reducible exact ih0 _ _ _ _)
   | (with_reducible exact palaverref04_Levels.mono _ _)
   | (with_reducible exact LeO.refl _)
   | (with_reducible exact LeO.none _)
   | (with_reducible refine LeO.ite ?_ ?_)
   | (with_reducible refine LeO.bind ?_ (fun _ => ?_))
   | exact ih0 _ _ _ _
   | exact palaverref04_Levels.mono _ _
   | exact LeO.none _
   | refine LeO.ite ?_ ?_
   | refine LeO.bind ?_ (fun _ => ?_)
theorem palaverref04_Path.mono : ∀ a0 a1 k, LeO (palaverref04_Path.f k a0 a1) (palaverref04_Path.f (k + 1) a0 a1) := by
 intro a0 a1 k
 have ih0 := palaverref04_Path.mono_l k
 unfold palaverref04_Path.f
 repeat' first
  | (with_reducible exact ih0 _ _ _ _)
  | (with_reducible exact palaverref04_Levels.mono _ _)
  | (with_reducible exact LeO.refl _)
  | (with_reducible exact LeO.none _)
  | (with_reducible refine LeO.ite ?_ ?_)
  | (with_reducible refine LeO.bind ?_ (fun _ => ?_))
  | exact ih0 _ _ _ _
  | exact palaverref04_Levels.mono _ _
  | exact LeO.none _
  | refine LeO.ite ?_ ?_
  | refine LeO.bind ?_ (fun _ => ?_)
set_option maxHeartbeats 64000000 in
set_option maxRecDepth 100000 in
theorem palaverref04_Path.calls (k : Nat) (A0 : Option Addr) (c0 : Nat) (l0 : List ByteArray) (a1 : Int) (r : List ByteArray) (w : World) (hr0 : Kd.C Kd.string w A0 l0.length l0) (hc0 : l0.length ≤ c0) (h : palaverref04_Path.f k l0 a1 = some r) :
 Calls Tryz.prog 65 #[.slice A0 l0.length c0, .int .i64 a1] w fun e w' => ∃ v0_ : Value, e = .returned (v0_) ∧ Kd.R Kd.string 9 w' w.heap.size (fun _ => True) v0_ r ∧ Below w.heap.size w w' := by
 have HR0 := Aside0.mk hr0
 have HC0 := Aside0.mk hc0
 clear hr0 hc0
 have HB := Aside0.mk (Below.refl w.heap.size w)
 have H : ((palaverref04_Levels.f k l0).bind fun t357 => (palaverref04_Path.l0 k a1 t357 ([] : List ByteArray) 0)) = some r := h
 clear h
 revert H; refine oa_ fun t357 A3 H => ?_
 have H' := Aside0.mk H
 clear H
 go_enter Tryz.func65, Tryz.ntmps65
 go_wp2_with (first | ((with_reducible refine gate_callee (f := 98) rfl ?_); refine gL_ 9 Tryz.func98 #[.slice A0 l0.length c0] ?_; (with_reducible refine (palaverref04_Levels.calls k (fun k_ => k_ < w.heap.size) _ _ l0 t357 _ ?side1 A3.out).mono ?_); (case side1 => exact Kd.V_mk HC0.out (Kd.F_below (Kd.C_F Kd.heap_string HR0.out) bl_)); rintro e w4 ⟨v358, rfl, ho0, hb⟩; refine ⟨_, rfl, ?_⟩; have HO359 := Aside0.mk (Kd.N_lower (Kd.N_mono (ok' := fun k_ => True) ho0 (fun k_ hk_ => trivial)) (below_size bl_)); replace HB := Aside0.mk (below_step bl_ hb); (try clear hb); (try clear hb2); (try clear hk); (try clear hi); (try clear ho0)))
 go_loopg [1, 6, 7] k (fun kq v1 v6 v7 w' => ∃ (x1_1 : Int) (x6_1 : List ByteArray) (x7_1 : Int), v1 = .int .i64 x1_1 ∧ v7 = .int .i64 x7_1 ∧ Aside0 (palaverref04_Path.l0 kq x1_1 t357 x6_1 x7_1 = some r) ∧ Aside0 (kq ≤ k) ∧ Aside0 (Kd.N (Kd.slice 9 Kd.string) 24 w' w.heap.size (fun k_ => some k_ ≠ (v6 : Value).ownBlock) v358 t357) ∧ Aside0 (Kd.R Kd.string 9 w' w.heap.size (fun _ => True) v6 x6_1) ∧ Aside0 (Below w.heap.size w w'))
 case atStart => exact ⟨(a1), (([] : List ByteArray)), (0), vq_, vq_, H', ⟨Nat.le_refl _⟩, ⟨by (with_reducible repeat (first | apply Kd.N_alloc | apply Kd.N_drewN | apply Kd.N_drew)); exact Kd.N_mono HO359.out (fun _ hk => (by simp [Value.ownBlock]))⟩, ⟨by first | exact Kd.R_nil _ _ _ _ _ | exact Kd.N_nil _ _ _ _ _ | exact Kd.V_nil _ _ _ _ _ | exact Kd.Q_nil _ _ _ _ _ | exact Kd.S_nil _ _ _ _ _⟩, ⟨bl_⟩⟩
 case round =>
  clear H'
  (try clear p2)
  obtain ⟨x1_1, x6_1, x7_1, rfl, rfl, HA, HK1, HO_5, HO_6, HB⟩ := hrel
  cases gk with
  | zero => exact absurd HA.out (by simp [palaverref04_Path.l0])
  | succ k1 =>
   have H := HA.out
   clear HA
   simp only [palaverref04_Path.l0] at H
   by_cases c5 : x7_1 < (wrap64 ((t357.length : Int) - 1))
   ·rw [if_pos c5] at H
    have c5b0 : decide (x7_1 < (wrap64 ((t357.length : Int) - 1))) = true := decide_eq_true c5
    clear c5
    by_cases c6 : (Int.tmod x1_1 2) = 0
    ·rw [if_pos c6] at H
     have c6b0 : ((Int.tmod x1_1 2) == 0) = true := beq_iff_eq.mpr c6
     have c6b1 : ((Int.tmod x1_1 2) != 0) = false := bne_eq_false_iff_eq.mpr c6
     clear c6
     revert H; refine nd_ fun c7 c7b0 => nd_ fun c8 c8b0 H => ?_
     clear c7 c8
     generalize hji9 : (wrap64 (x1_1 + 1)) = ji9 at H
     have hji9w := (i64_w _).trans hji9
     revert H; refine nd_ fun c10 c10b0 => nd_ fun c11 c11b0 => nc_ fun c12 H => ?_
     have LMc12 := Aside0.mk c12
     clear c10 c11 c12
     generalize e_ : (x6_1 ++ [rdOf ByteArray.empty (rd_L4 t357 x7_1) (ji9)] : List ByteArray) = y362 at H
     have Ny362 := Aside0.mk e_.symm
     clear e_
     have H' := Aside0.mk H
     clear H
     obtain ⟨Ao13, co13, eo13⟩ := Kd.N_slice HO_5.out
     subst eo13
     have p360 : 0 ≤ (x7_1 : Int) := ae_
     have q360 : x7_1 < (t357.length : Int) := ae_
     obtain ⟨ad360, A360_0, c360_0, e360, hx360_0, hl360_0, hi360_0⟩ := at_L4 (Kd.N_reads' HO_5.out).2.2 x7_1 p360 q360
     cases e360
     obtain ⟨ce360, hce360, hMe360, hcc360⟩ := Kd.N_get HO_5.out [] x7_1 p360 (by first | exact q360 | exact ae_ | (have e_ := (Kd.N_reads' HO_5.out).1; omega))
     obtain ⟨ua360_0, uc360_0, rfl, ul360_0, ge360_0⟩ := Kd.FK_slice_open hMe360
     have hv360_0 := hcc360 0 _ rfl
     rw [Nat.add_zero, show ((Kd.slice 9 Kd.string)).sz = 1 from rfl, Nat.mul_one] at hv360_0
     replace hv360_0 := Option.some.inj (hv360_0.symm.trans hx360_0)
     injection hv360_0 with hva_ hvn_ hvc_
     rw [hva_] at ge360_0
     rw [hvc_] at ul360_0
     have HL360_0 := Aside0.mk (show Kd.V Kd.string 9 _ w.heap.size _ _ (rd_L4 t357 x7_1) from Kd.V_mk ul360_0 ge360_0)
     clear hva_ hvn_ hvc_ ge360_0 ul360_0
     clear hcc360 hce360
     have HR360_0 := Aside0.mk hi360_0
     have HC360_0 := Aside0.mk hl360_0
     clear hi360_0 hl360_0
     replace p360 := eq_true p360
     replace q360 := eq_true q360
     have p361 : 0 ≤ ((ji9) : Int) := ae_
     have q361 : (ji9) < ((rd_L4 t357 x7_1).length : Int) := ae_
     obtain ⟨ad361, e361, hx361_0⟩ := Kd.at_string (by repeat (first | (with_reducible exact HR360_0.out) | (with_reducible refine Kd.C_alloc ?_ _) | (with_reducible refine Kd.C_drewN ?_ _) | (with_reducible refine Kd.C_drew ?_) | exact HR360_0.out)) (ji9) p361 q361
     cases e361
     replace p361 := eq_true p361
     replace q361 := eq_true q361
     go_wp2_with (first | ((with_reducible refine gate_builtin (b := .append) (xs := #[.tmp 20, .tmp 29]) rfl ?_); at_builtin; refine Kd.R_append Kd.string (w0 := w) w.heap.size rfl (.tmp 20) (.tmp 29) 24 9 (.string ⟨#[]⟩) 16 rfl Tryz.underlying24 info9 rfl (by decide) (by omega) u6 x6_1 (rdOf ByteArray.empty (rd_L4 t357 x7_1) (ji9)) [.string (rdOf ByteArray.empty (rd_L4 t357 x7_1) (ji9))] (fun _ => True) (fun _ => False) rfl rfl ?aP (fun _ hk => hk.elim) ?aF ?aO ?aB ?aS ?aL ?_; (case aP => exact rfl); (case aB => exact bl_); (case aF => exact (fun _ _ => trivial)); (case aO => exact (mv_ HO_6.out)); (case aS => exact (below_size bl_)); (case aL => have := LMc12.out; omega); intro v363 w14 ho hb hg hat; rw [← Ny362.out] at ho; have HO364 := Aside0.mk (ho); replace HB := Aside0.mk (hb); replace HL360_0 := Aside0.mk (Kd.V_afterv (ok := (fun k_ => some k_ ≠ (.slice (some ad360) t357.length co13 : Value).ownBlock)) (by (with_reducible repeat (first | apply Kd.V_alloc | apply Kd.V_drewN | apply Kd.V_drew)); exact Kd.V_mono HL360_0.out (fun _ hk => ⟨hk.2, hk.1⟩)) hg hat); replace HO_5 := Aside0.mk (Kd.N_afterv (ok := (fun _ => True)) (by (with_reducible repeat (first | apply Kd.N_alloc | apply Kd.N_drewN | apply Kd.N_drew)); exact Kd.N_mono HO_5.out (fun _ hk => ⟨trivial, hk⟩)) hg hat); clear HO_6; clear ho hb hg hat))
     go_roundg k1
     case measure => have := HK1.out; omega
     case rel => exact ⟨(wrap64 (Int.tdiv x1_1 2)), (y362), (wrap64 (x7_1 + 1)), vq_, vq_, H', ⟨by have := HK1.out; omega⟩, ⟨by (with_reducible repeat (first | apply Kd.N_alloc | apply Kd.N_drewN | apply Kd.N_drew)); exact Kd.N_mono HO_5.out (fun _ hk => hk.2)⟩, ⟨mv_ HO364.out⟩, ⟨bl_⟩⟩
    rw [if_neg c6] at H
    have c6b0 : ((Int.tmod x1_1 2) == 0) = false := beq_eq_false_iff_ne.mpr c6
    have c6b1 : ((Int.tmod x1_1 2) != 0) = true := bne_iff_ne.mpr c6
    revert H; refine nd_ fun c15 c15b0 => nd_ fun c16 c16b0 H => ?_
    clear c15 c16
    generalize hji17 : (wrap64 (x1_1 - 1)) = ji17 at H
    have hji17w := (i64_w _).trans hji17
    revert H; refine nd_ fun c18 c18b0 => nd_ fun c19 c19b0 => nc_ fun c20 H => ?_
    have LMc20 := Aside0.mk c20
    clear c18 c19 c20
    generalize e_ : (x6_1 ++ [rdOf ByteArray.empty (rd_L4 t357 x7_1) (ji17)] : List ByteArray) = y367 at H
    have Ny367 := Aside0.mk e_.symm
    clear e_
    have H' := Aside0.mk H
    clear H
    obtain ⟨Ao21, co21, eo21⟩ := Kd.N_slice HO_5.out
    subst eo21
    have p365 : 0 ≤ (x7_1 : Int) := ae_
    have q365 : x7_1 < (t357.length : Int) := ae_
    obtain ⟨ad365, A365_0, c365_0, e365, hx365_0, hl365_0, hi365_0⟩ := at_L4 (Kd.N_reads' HO_5.out).2.2 x7_1 p365 q365
    cases e365
    obtain ⟨ce365, hce365, hMe365, hcc365⟩ := Kd.N_get HO_5.out [] x7_1 p365 (by first | exact q365 | exact ae_ | (have e_ := (Kd.N_reads' HO_5.out).1; omega))
    obtain ⟨ua365_0, uc365_0, rfl, ul365_0, ge365_0⟩ := Kd.FK_slice_open hMe365
    have hv365_0 := hcc365 0 _ rfl
    rw [Nat.add_zero, show ((Kd.slice 9 Kd.string)).sz = 1 from rfl, Nat.mul_one] at hv365_0
    replace hv365_0 := Option.some.inj (hv365_0.symm.trans hx365_0)
    injection hv365_0 with hva_ hvn_ hvc_
    rw [hva_] at ge365_0
    rw [hvc_] at ul365_0
    have HL365_0 := Aside0.mk (show Kd.V Kd.string 9 _ w.heap.size _ _ (rd_L4 t357 x7_1) from Kd.V_mk ul365_0 ge365_0)
    clear hva_ hvn_ hvc_ ge365_0 ul365_0
    clear hcc365 hce365
    have HR365_0 := Aside0.mk hi365_0
    have HC365_0 := Aside0.mk hl365_0
    clear hi365_0 hl365_0
    replace p365 := eq_true p365
    replace q365 := eq_true q365
    have p366 : 0 ≤ ((ji17) : Int) := ae_
    have q366 : (ji17) < ((rd_L4 t357 x7_1).length : Int) := ae_
    obtain ⟨ad366, e366, hx366_0⟩ := Kd.at_string (by repeat (first | (with_reducible exact HR365_0.out) | (with_reducible refine Kd.C_alloc ?_ _) | (with_reducible refine Kd.C_drewN ?_ _) | (with_reducible refine Kd.C_drew ?_) | exact HR365_0.out)) (ji17) p366 q366
    cases e366
    replace p366 := eq_true p366
    replace q366 := eq_true q366
    go_wp2_with (first | ((with_reducible refine gate_builtin (b := .append) (xs := #[.tmp 31, .tmp 40]) rfl ?_); at_builtin; refine Kd.R_append Kd.string (w0 := w) w.heap.size rfl (.tmp 31) (.tmp 40) 24 9 (.string ⟨#[]⟩) 16 rfl Tryz.underlying24 info9 rfl (by decide) (by omega) u6 x6_1 (rdOf ByteArray.empty (rd_L4 t357 x7_1) (ji17)) [.string (rdOf ByteArray.empty (rd_L4 t357 x7_1) (ji17))] (fun _ => True) (fun _ => False) rfl rfl ?aP (fun _ hk => hk.elim) ?aF ?aO ?aB ?aS ?aL ?_; (case aP => exact rfl); (case aB => exact bl_); (case aF => exact (fun _ _ => trivial)); (case aO => exact (mv_ HO_6.out)); (case aS => exact (below_size bl_)); (case aL => have := LMc20.out; omega); intro v368 w22 ho hb hg hat; rw [← Ny367.out] at ho; have HO369 := Aside0.mk (ho); replace HB := Aside0.mk (hb); replace HL365_0 := Aside0.mk (Kd.V_afterv (ok := (fun k_ => some k_ ≠ (.slice (some ad365) t357.length co21 : Value).ownBlock)) (by (with_reducible repeat (first | apply Kd.V_alloc | apply Kd.V_drewN | apply Kd.V_drew)); exact Kd.V_mono HL365_0.out (fun _ hk => ⟨hk.2, hk.1⟩)) hg hat); replace HO_5 := Aside0.mk (Kd.N_afterv (ok := (fun _ => True)) (by (with_reducible repeat (first | apply Kd.N_alloc | apply Kd.N_drewN | apply Kd.N_drew)); exact Kd.N_mono HO_5.out (fun _ hk => ⟨trivial, hk⟩)) hg hat); clear HO_6; clear ho hb hg hat))
    go_roundg k1
    case measure => have := HK1.out; omega
    case rel => exact ⟨(wrap64 (Int.tdiv x1_1 2)), (y367), (wrap64 (x7_1 + 1)), vq_, vq_, H', ⟨by have := HK1.out; omega⟩, ⟨by (with_reducible repeat (first | apply Kd.N_alloc | apply Kd.N_drewN | apply Kd.N_drew)); exact Kd.N_mono HO_5.out (fun _ hk => hk.2)⟩, ⟨mv_ HO369.out⟩, ⟨bl_⟩⟩
   rw [if_neg c5] at H
   have c5b0 : decide (x7_1 < (wrap64 ((t357.length : Int) - 1))) = false := decide_eq_false c5
   clear c5
   obtain rfl := Option.some.inj H
   obtain ⟨Ao23, co23, eo23⟩ := Kd.N_slice HO_5.out
   subst eo23
   go_wp2
   go_ret
   exact ⟨_, er_, mv_ HO_6.out, bl_⟩

/-! ### palaverref05_Sign: function 32 -/
mutual
def palaverref05_Sign.l0 : Nat → ByteArray → List ByteArray → List ByteArray → Int → Option (ByteArray)
 | 0, _, _, _, _ => none
 | k + 1, x9, x11, x12, x13 => if x13 < (x11.length : Int) then (if 0 ≤ x13 then (if x9.size + (rdOf ByteArray.empty x11 x13).size ≤ 9223372036854775807 then (palaverref05_Sign.l0 k (x9 ++ (rdOf ByteArray.empty x11 x13)) x11 x12 (wrap64 (x13 + 1))) else (none)) else (none)) else (palaverref05_Sign.l1 k x9 x12 0)
def palaverref05_Sign.l1 : Nat → ByteArray → List ByteArray → Int → Option (ByteArray)
 | 0, _, _, _ => none
 | k + 1, x9, x12, x14 => if x14 < (x12.length : Int) then (if 0 ≤ x14 then (if x9.size + (rdOf ByteArray.empty x12 x14).size ≤ 9223372036854775807 then (palaverref05_Sign.l1 k (x9 ++ (rdOf ByteArray.empty x12 x14)) x12 (wrap64 (x14 + 1))) else (none)) else (none)) else (some x9)
end
def palaverref05_Sign.f (k : Nat) (a0 : ByteArray) (a1 : Int) (a2 : Int) (a3 : ByteArray) : Option (ByteArray) := (palaverref01_Number.f k a2 2).bind fun bt370 => ((palaverref02_Tag.f k 6 (([a3] : List ByteArray))).bind fun t375 => ((palaverref03_Sign.f k a0 a2 t375).bind fun t376 => ((palaverref05_Leaves.f k a0 a1).bind fun t379 => ((palaverref04_Path.f k t379 a2).bind fun t382 => (palaverref05_Sign.l0 k bt370.1 t376 t382 0)))))
theorem palaverref05_Sign.mono_l : ∀ k, (∀ y0 y1 y2 y3, LeO (palaverref05_Sign.l0 k y0 y1 y2 y3) (palaverref05_Sign.l0 (k + 1) y0 y1 y2 y3)) ∧ (∀ y0 y1 y2, LeO (palaverref05_Sign.l1 k y0 y1 y2) (palaverref05_Sign.l1 (k + 1) y0 y1 y2))
 | 0 => ⟨fun _ _ _ _ r h => by simp [palaverref05_Sign.l0] at h, fun _ _ _ r h => by simp [palaverref05_Sign.l1] at h⟩
 | k + 1 => by
  obtain ⟨ih0, ih1⟩ := palaverref05_Sign.mono_l k
  refine ⟨?_, ?_⟩ <;> intros <;> (first | unfold palaverref05_Sign.l0 | unfold palaverref05_Sign.l1) <;> repeat' first
  | (with_reducible exact ih0 _ _ _ _)
  | (with_reducible exact ih1 _ _ _)
  | (with_reducible exact palaverref01_Number.mono _ _ _)
  | (with_reducible exact palaverref02_Tag.mono _ _ _)
  | (with_reducible exact palaverref03_Sign.mono _ _ _ _)
  | (with_reducible exact palaverref04_Path.mono _ _ _)
  | (with_reducible exact palaverref05_Leaves.mono _ _ _)
  | (with_reducible exact LeO.refl _)
  | (with_reducible exact LeO.none _)
  | (with_reducible refine LeO.ite ?_ ?_)
  | (with_reducible refine LeO.bind ?_ (fun _ => ?_))
  | exact ih0 _ _ _ _
  | exact ih1 _ _ _
  | exact palaverref01_Number.mono _ _ _
  | exact palaverref02_Tag.mono _ _ _
  | exact palaverref03_Sign.mono _ _ _ _
  | exact palaverref04_Path.mono _ _ _
  | exact palaverref05_Leaves.mono _ _ _
  | exact LeO.none _
  | refine LeO.ite ?_ ?_
  | refine LeO.bind ?_ (fun _ => ?_)
theorem palaverref05_Sign.mono : ∀ a0 a1 a2 a3 k, LeO (palaverref05_Sign.f k a0 a1 a2 a3) (palaverref05_Sign.f (k + 1) a0 a1 a2 a3) := by
 intro a0 a1 a2 a3 k
 obtain ⟨ih0, ih1⟩ := palaverref05_Sign.mono_l k
 unfold palaverref05_Sign.f
 repeat' first
  | (with_reducible exact ih0 _ _ _ _)
  | (with_reducible exact ih1 _ _ _)
  | (with_reducible exact palaverref01_Number.mono _ _ _)
  | (with_reducible exact palaverref02_Tag.mono _ _ _)
  | (with_reducible exact palaverref03_Sign.mono _ _ _ _)
  | (with_reducible exact palaverref04_Path.mono _ _ _)
  | (with_reducible exact palaverref05_Leaves.mono _ _ _)
  | (with_reducible exact LeO.refl _)
  | (with_reducible exact LeO.none _)
  | (with_reducible refine LeO.ite ?_ ?_)
  | (with_reducible refine LeO.bind ?_ (fun _ => ?_))
  | exact ih0 _ _ _ _
  | exact ih1 _ _ _
  | exact palaverref01_Number.mono _ _ _
  | exact palaverref02_Tag.mono _ _ _
  | exact palaverref03_Sign.mono _ _ _ _
  | exact palaverref04_Path.mono _ _ _
  | exact palaverref05_Leaves.mono _ _ _
  | exact LeO.none _
  | refine LeO.ite ?_ ?_
  | refine LeO.bind ?_ (fun _ => ?_)
set_option maxHeartbeats 64000000 in
set_option maxRecDepth 100000 in
theorem palaverref05_Sign.calls (k : Nat) (a0 : ByteArray) (a1 : Int) (a2 : Int) (a3 : ByteArray) (r : ByteArray) (w : World) (h : palaverref05_Sign.f k a0 a1 a2 a3 = some r) :
 Calls Tryz.prog 32 #[.string a0, .int .i64 a1, .int .i64 a2, .string a3] w fun e w' => e = .returned (.string r) ∧ Below w.heap.size w w' := by
 have HB := Aside0.mk (Below.refl w.heap.size w)
 have H : ((palaverref01_Number.f k a2 2).bind fun bt370 => ((palaverref02_Tag.f k 6 (([a3] : List ByteArray))).bind fun t375 => ((palaverref03_Sign.f k a0 a2 t375).bind fun t376 => ((palaverref05_Leaves.f k a0 a1).bind fun t379 => ((palaverref04_Path.f k t379 a2).bind fun t382 => (palaverref05_Sign.l0 k bt370.1 t376 t382 0)))))) = some r := h
 clear h
 replace H := ob_ H
 obtain ⟨⟨t370, t371⟩, A50, H⟩ := H
 replace H : ((palaverref02_Tag.f k 6 (([a3] : List ByteArray))).bind fun t375 => ((palaverref03_Sign.f k a0 a2 t375).bind fun t376 => ((palaverref05_Leaves.f k a0 a1).bind fun t379 => ((palaverref04_Path.f k t379 a2).bind fun t382 => (palaverref05_Sign.l0 k t370 t376 t382 0))))) = some r := H
 have A5 := Aside0.mk A50
 clear A50
 generalize e_ : (([a3] : List ByteArray) : List ByteArray) = y372 at H
 have Ny372 := Aside0.mk e_.symm
 clear e_
 revert H; refine oa_ fun t375 A6 => oa_ fun t376 A7 => oa_ fun t379 A8 => oa_ fun t382 A9 H => ?_
 have H' := Aside0.mk H
 clear H
 go_enter Tryz.func32, Tryz.ntmps32
 go_wp2_with (first | ((with_reducible refine gate_callee (f := 36) rfl ?_); refine gL_ 17 Tryz.func36 #[.int .i64 a2, .int .i64 2] ?_; (with_reducible refine (palaverref01_Number.calls k a2 2 t370 t371 _ A5.out).mono ?_); rintro e w10 ⟨rfl, hb⟩; refine ⟨_, rfl, ?_⟩; replace HB := Aside0.mk (below_step bl_ hb); (try clear hb); (try clear hb2); (try clear hk); (try clear hi)) | ((with_reducible refine gate_dst (N := 23) rfl ?_); refine Kd.R_lit Kd.string _ 9 ?hg (N := 23) ?hd (xs := ([a3] : List ByteArray)) (inner := [.string a3]) (ok := fun _ => True) (okp := fun _ => True) ?hr ?hp (fun _ hk => hk) trivial (Below.refl _ _) (Nat.le_refl _) (by simp) ?_; (case hd => rfl); (case hg => rfl); (case hr => exact gr_); (case hp => exact (Reps.one (show Kd.M Kd.string _ _ _ a3 [.string a3] from rfl) (Reps.none _ _))); intro v373 w11 ho12 hb hg_ hnew_; clear hg_ hnew_; (first | rw [← Ny372.out] at ho12 | (simp only [Int.reduceToNat] at ho12; rw [← Ny372.out] at ho12)); have HO374 := Aside0.mk (Kd.R_lower ho12 (below_size bl_)); replace HB := Aside0.mk (below_step bl_ hb); clear hb ho12; obtain ⟨Ao13, co13, eo13⟩ := Kd.R_slice HO374.out; subst eo13) | ((with_reducible refine gate_callee (f := 34) rfl ?_); refine gL_ 24 Tryz.func34 #[.int .i64 6, .slice Ao13 y372.length co13] ?_; (with_reducible refine (palaverref02_Tag.calls k 6 _ _ y372 t375 _ ?side1 ?side2 A6.out).mono ?_); (case side1 => repeat (first | exact (Kd.R_reads' HO374.out).2.2 | (with_reducible refine Kd.C_alloc ?_ _) | (with_reducible refine Kd.C_drewN ?_ _) | (with_reducible refine Kd.C_drew ?_))); (case side2 => exact (Kd.R_reads' HO374.out).2.1); rintro e w14 ⟨rfl, hb⟩; refine ⟨_, rfl, ?_⟩; replace HB := Aside0.mk (below_step bl_ hb); replace HO374 := Aside0.mk (Kd.R_below (mv_ HO374.out) hb); (try clear hb); (try clear hb2); (try clear hk); (try clear hi)) | ((with_reducible refine gate_callee (f := 64) rfl ?_); refine gL_ 25 Tryz.func64 #[.string a0, .int .i64 a2, .string t375] ?_; (with_reducible refine (palaverref03_Sign.calls k a0 a2 t375 t376 _ A7.out).mono ?_); rintro e w15 ⟨v377, rfl, ho0, hb⟩; refine ⟨_, rfl, ?_⟩; have HO378 := Aside0.mk (Kd.R_lower (Kd.R_new' ho0 (Kd.R_lt (mv_ HO374.out))) (below_size bl_)); replace HB := Aside0.mk (below_step bl_ hb); replace HO374 := Aside0.mk (Kd.R_elder' (mv_ HO374.out) (Kd.R_base ho0) hb); (try clear hb); (try clear hb2); (try clear hk); (try clear hi); (try clear ho0)) | ((with_reducible refine gate_callee (f := 63) rfl ?_); refine gL_ 28 Tryz.func63 #[.string a0, .int .i64 a1] ?_; (with_reducible refine (palaverref05_Leaves.calls k a0 a1 t379 _ A8.out).mono ?_); rintro e w16 ⟨v380, rfl, ho0, hb⟩; refine ⟨_, rfl, ?_⟩; have HO381 := Aside0.mk (Kd.R_lower (Kd.R_new' (Kd.R_new' ho0 (Kd.R_lt (mv_ HO374.out))) (Kd.R_lt (mv_ HO378.out))) (below_size bl_)); replace HB := Aside0.mk (below_step bl_ hb); replace HO378 := Aside0.mk (Kd.R_elder' (mv_ HO378.out) (Kd.R_base ho0) hb); replace HO374 := Aside0.mk (Kd.R_elder' (mv_ HO374.out) (Kd.R_base ho0) hb); (try clear hb); (try clear hb2); (try clear hk); (try clear hi); (try clear ho0); obtain ⟨Ao17, co17, eo17⟩ := Kd.R_slice HO381.out; subst eo17) | ((with_reducible refine gate_callee (f := 65) rfl ?_); refine gL_ 30 Tryz.func65 #[.slice Ao17 t379.length co17, .int .i64 a2] ?_; (with_reducible refine (palaverref04_Path.calls k _ _ t379 a2 t382 _ ?side1 ?side2 A9.out).mono ?_); (case side1 => repeat (first | exact (Kd.R_reads' HO381.out).2.2 | (with_reducible refine Kd.C_alloc ?_ _) | (with_reducible refine Kd.C_drewN ?_ _) | (with_reducible refine Kd.C_drew ?_))); (case side2 => exact (Kd.R_reads' HO381.out).2.1); rintro e w18 ⟨v383, rfl, ho0, hb⟩; refine ⟨_, rfl, ?_⟩; have HO384 := Aside0.mk (Kd.R_lower (Kd.R_new' (Kd.R_new' (Kd.R_new' ho0 (Kd.R_lt (mv_ HO374.out))) (Kd.R_lt (mv_ HO378.out))) (Kd.R_lt (mv_ HO381.out))) (below_size bl_)); replace HB := Aside0.mk (below_step bl_ hb); replace HO381 := Aside0.mk (Kd.R_elder' (mv_ HO381.out) (Kd.R_base ho0) hb); replace HO378 := Aside0.mk (Kd.R_elder' (mv_ HO378.out) (Kd.R_base ho0) hb); replace HO374 := Aside0.mk (Kd.R_elder' (mv_ HO374.out) (Kd.R_base ho0) hb); (try clear hb); (try clear hb2); (try clear hk); (try clear hi); (try clear ho0)))
 go_loopg [9, 13] k (fun kq v9 v13 w' => ∃ (x9_1 : ByteArray) (x13_1 : Int), v9 = .string x9_1 ∧ v13 = .int .i64 x13_1 ∧ Aside0 (palaverref05_Sign.l0 kq x9_1 t376 t382 x13_1 = some r) ∧ Aside0 (kq ≤ k) ∧ Aside0 (Kd.R Kd.string 9 w' w.heap.size (fun k_ => some k_ ≠ (v383 : Value).ownBlock) v377 t376) ∧ Aside0 (Kd.R Kd.string 9 w' w.heap.size (fun k_ => some k_ ≠ (v377 : Value).ownBlock) v383 t382) ∧ Aside0 (Below w.heap.size w w'))
 case atStart => exact ⟨(t370), (0), vq_, vq_, H', ⟨Nat.le_refl _⟩, ⟨by refine mv_ ?_; exact Kd.R_mono HO378.out (fun _ hk => hk.2)⟩, ⟨by refine mv_ ?_; exact Kd.R_mono HO384.out (fun _ hk => hk.1.2)⟩, ⟨bl_⟩⟩
 case round =>
  clear H'
  (try clear p2); (try clear c3); (try clear c6); (try clear p6)
  obtain ⟨x9_1, x13_1, rfl, rfl, HA, HK1, HO_11, HO_12, HB⟩ := hrel
  cases gk with
  | zero => exact absurd HA.out (by simp [palaverref05_Sign.l0])
  | succ k1 =>
   have H := HA.out
   clear HA
   simp only [palaverref05_Sign.l0] at H
   by_cases c19 : x13_1 < (t376.length : Int)
   ·rw [if_pos c19] at H
    have c19b0 : decide (x13_1 < (t376.length : Int)) = true := decide_eq_true c19
    clear c19
    revert H; refine nd_ fun c20 c20b0 => ne_ fun c21 c21b0 c21b1 H => ?_
    try have c21b2 : (9223372036854775807 < x9_1.size + (rdOf ByteArray.empty t376 x13_1).size) = False := eq_false (Nat.not_lt.2 c21)
    clear c20
    have H' := Aside0.mk H
    clear H
    obtain ⟨Ao22, co22, eo22⟩ := Kd.R_slice HO_11.out
    subst eo22
    have p385 : 0 ≤ (x13_1 : Int) := ae_
    have q385 : x13_1 < (t376.length : Int) := ae_
    obtain ⟨ad385, e385, hx385_0⟩ := Kd.at_string (Kd.R_reads' HO_11.out).2.2 x13_1 p385 q385
    cases e385
    replace p385 := eq_true p385
    replace q385 := eq_true q385
    go_wp2
    go_roundg k1
    case measure => have := HK1.out; omega
    case rel => exact ⟨(x9_1 ++ (rdOf ByteArray.empty t376 x13_1)), (wrap64 (x13_1 + 1)), vq_, vq_, H', ⟨by have := HK1.out; omega⟩, ⟨mv_ HO_11.out⟩, ⟨mv_ HO_12.out⟩, ⟨bl_⟩⟩
   rw [if_neg c19] at H
   have c19b0 : decide (x13_1 < (t376.length : Int)) = false := decide_eq_false c19
   clear c19
   have H' := Aside0.mk H
   clear H
   obtain ⟨Ao23, co23, eo23⟩ := Kd.R_slice HO_11.out
   subst eo23
   go_wp2
   go_loopg [9, 14] k1 (fun kq v9 v14 w' => ∃ (x9_2 : ByteArray) (x14_2 : Int), v9 = .string x9_2 ∧ v14 = .int .i64 x14_2 ∧ Aside0 (palaverref05_Sign.l1 kq x9_2 t382 x14_2 = some r) ∧ Aside0 (kq ≤ k1) ∧ Aside0 (Kd.R Kd.string 9 w' w.heap.size (fun _ => True) v383 t382) ∧ Aside0 (Below w.heap.size w w'))
   case atStart => exact ⟨(x9_1), (0), vq_, vq_, H', ⟨Nat.le_refl _⟩, ⟨by refine mv_ ?_; exact Kd.R_mono HO_12.out (fun _ hk => trivial)⟩, ⟨bl_⟩⟩
   case round =>
    clear H'
    (try clear c1); (try clear c2); (try clear p2); (try clear c3); (try clear p3); (try clear q3); (try clear hx3); (try clear c6); (try clear p6); (try clear c19); (try clear c19b0); (try clear c20); (try clear c20b0); (try clear c21); (try clear c21b0); (try clear c21b1); (try clear c21b2); (try clear hx385_0); (try clear p2); (try clear p385); (try clear p6); (try clear q385)
    obtain ⟨x9_2, x14_2, rfl, rfl, HA, HK2, HO_12, HB⟩ := hrel
    cases gk with
    | zero => exact absurd HA.out (by simp [palaverref05_Sign.l1])
    | succ k2 =>
     have H := HA.out
     clear HA
     simp only [palaverref05_Sign.l1] at H
     by_cases c24 : x14_2 < (t382.length : Int)
     ·rw [if_pos c24] at H
      have c24b0 : decide (x14_2 < (t382.length : Int)) = true := decide_eq_true c24
      clear c24
      revert H; refine nd_ fun c25 c25b0 => ne_ fun c26 c26b0 c26b1 H => ?_
      try have c26b2 : (9223372036854775807 < x9_2.size + (rdOf ByteArray.empty t382 x14_2).size) = False := eq_false (Nat.not_lt.2 c26)
      clear c25
      have H' := Aside0.mk H
      clear H
      obtain ⟨Ao27, co27, eo27⟩ := Kd.R_slice HO_12.out
      subst eo27
      have p386 : 0 ≤ (x14_2 : Int) := ae_
      have q386 : x14_2 < (t382.length : Int) := ae_
      obtain ⟨ad386, e386, hx386_0⟩ := Kd.at_string (Kd.R_reads' HO_12.out).2.2 x14_2 p386 q386
      cases e386
      replace p386 := eq_true p386
      replace q386 := eq_true q386
      go_wp2
      go_roundg k2
      case measure => have := HK1.out; have := HK2.out; omega
      case rel => exact ⟨(x9_2 ++ (rdOf ByteArray.empty t382 x14_2)), (wrap64 (x14_2 + 1)), vq_, vq_, H', ⟨by have := HK1.out; have := HK2.out; omega⟩, ⟨mv_ HO_12.out⟩, ⟨bl_⟩⟩
     rw [if_neg c24] at H
     have c24b0 : decide (x14_2 < (t382.length : Int)) = false := decide_eq_false c24
     clear c24
     obtain rfl := Option.some.inj H
     obtain ⟨Ao28, co28, eo28⟩ := Kd.R_slice HO_12.out
     subst eo28
     go_wp2
     go_ret
     exact ⟨er_, bl_⟩

-- NOT PRINTED: function 10 (palaverlaw05_awake)

/-! ### palaverref01_Value: function 39 -/
def palaverref01_Value.l0 : Nat → ByteArray → Int → Int → Option (Int)
 | 0, _, _, _ => none
 | k + 1, x0, x3, x4 => if x4 < (x0.size : Int) then (if 0 ≤ x4 then (palaverref01_Value.l0 k x0 (wrap64 ((wrap64 (256 * x3)) + (wrap64 (bt x0 x4)))) (wrap64 (x4 + 1))) else (none)) else (some x3)
def palaverref01_Value.f (k : Nat) (a0 : ByteArray) : Option (Int) := palaverref01_Value.l0 k a0 0 0
theorem palaverref01_Value.mono_l : ∀ k, (∀ y0 y1 y2, LeO (palaverref01_Value.l0 k y0 y1 y2) (palaverref01_Value.l0 (k + 1) y0 y1 y2))
 | 0 => fun _ _ _ r h => by simp [palaverref01_Value.l0] at h
 | k + 1 => by
  have ih0 := palaverref01_Value.mono_l k
  ·intro y0 y1 y2
   unfold palaverref01_Value.l0
   repeat' first
   | (with_reducible exact ih0 _ _ _)
   | (with_reducible exact LeO.refl _)
   | (with_reducible exact LeO.none _)
   | (with_reducible refine LeO.ite ?_ ?_)
   | (with_reducible refine LeO.bind ?_ (fun _ => ?_))
   | exact ih0 _ _ _
   | exact LeO.none _
   | refine LeO.ite ?_ ?_
   | refine LeO.bind ?_ (fun _ => ?_)
theorem palaverref01_Value.mono : ∀ a0 k, LeO (palaverref01_Value.f k a0) (palaverref01_Value.f (k + 1) a0) := by
 intro a0 k
 have ih0 := palaverref01_Value.mono_l k
 unfold palaverref01_Value.f
 repeat' first
  | (with_reducible exact ih0 _ _ _)
  | (with_reducible exact LeO.refl _)
  | (with_reducible exact LeO.none _)
  | (with_reducible refine LeO.ite ?_ ?_)
  | (with_reducible refine LeO.bind ?_ (fun _ => ?_))
  | exact ih0 _ _ _
  | exact LeO.none _
  | refine LeO.ite ?_ ?_
  | refine LeO.bind ?_ (fun _ => ?_)
set_option maxHeartbeats 64000000 in
set_option maxRecDepth 100000 in
theorem palaverref01_Value.calls (k : Nat) (a0 : ByteArray) (r : Int) (w : World) (h : palaverref01_Value.f k a0 = some r) :
 Calls Tryz.prog 39 #[.string a0] w fun e w' => e = .returned (.int .i64 r) ∧ Drawn0 w w' := by
 have H : (palaverref01_Value.l0 k a0 0 0) = some r := h
 clear h
 have H' := Aside0.mk H
 clear H
 go_enter Tryz.func39, Tryz.ntmps39
 go_wp2
 go_loopg [3, 4] k (fun kq v3 v4 w' => ∃ (x3_1 : Int) (x4_1 : Int), v3 = .int .i64 x3_1 ∧ v4 = .int .i64 x4_1 ∧ Aside0 (palaverref01_Value.l0 kq a0 x3_1 x4_1 = some r) ∧ Aside0 (kq ≤ k) ∧ Drawn0 w w')
 case atStart => exact ⟨(0), (0), vq_, vq_, H', ⟨Nat.le_refl _⟩, by repeat (first | exact Drawn0.refl _ | apply Drawn0.step)⟩
 case round =>
  clear H'
  obtain ⟨x3_1, x4_1, rfl, rfl, HA, HK1, ⟨m1, rfl⟩⟩ := hrel
  cases gk with
  | zero => exact absurd HA.out (by simp [palaverref01_Value.l0])
  | succ k1 =>
   have H := HA.out
   clear HA
   simp only [palaverref01_Value.l0] at H
   by_cases c2 : x4_1 < (a0.size : Int)
   ·rw [if_pos c2] at H
    have c2b0 : decide (x4_1 < (a0.size : Int)) = true := decide_eq_true c2
    clear c2
    revert H; refine nd_ fun c3 c3b0 H => ?_
    clear c3
    have H' := Aside0.mk H
    clear H
    have p4 := eq_true (ae_ : 0 ≤ (x4_1 : Int))
    have q4 := eq_true (ae_ : x4_1 < (a0.size : Int))
    have hx4 := bt_at a0 x4_1
    go_wp2
    go_roundg k1
    case measure => have := HK1.out; omega
    case rel => exact ⟨(wrap64 ((wrap64 (256 * x3_1)) + (wrap64 (bt a0 x4_1)))), (wrap64 (x4_1 + 1)), vq_, vq_, H', ⟨by have := HK1.out; omega⟩, by repeat (first | exact Drawn0.refl _ | apply Drawn0.step)⟩
   rw [if_neg c2] at H
   have c2b0 : decide (x4_1 < (a0.size : Int)) = false := decide_eq_false c2
   clear c2
   obtain rfl := Option.some.inj H
   go_wp2
   go_ret
   exact ⟨by first | rfl | (simp; done) | (simp [*]; done) | exact congrArg Value.bool (nonempty_l _) | (refine congrArg (Value.int _) ?_; first | omega | (unfold wrap64; omega)), by repeat (first | exact Drawn0.refl _ | apply Drawn0.step)⟩

/-! ### palaverref05_Parts: function 12 -/
mutual
def palaverref05_Parts.l0 : Nat → ByteArray → Int → Option (Int × List ByteArray × List ByteArray × Bool)
 | 0, _, _ => none
 | k + 1, x0, x6 => if x6 ≤ 4 then (if (x0.size : Int) = (wrap64 (2 + (wrap64 (32 * (wrap64 (67 + x6)))))) then (if 0 ≤ 2 then (if 2 ≤ (x0.size : Int) then ((palaverref01_Value.f k (x0.extract 0 2)).bind fun t387 => (palaverref05_Parts.l1 k x0 x6 t387 1 0)) else (none)) else (none)) else (palaverref05_Parts.l0 k x0 (wrap64 (x6 + 1)))) else (some (0, ([] : List ByteArray), ([] : List ByteArray), false))
def palaverref05_Parts.l1 : Nat → ByteArray → Int → Int → Int → Int → Option (Int × List ByteArray × List ByteArray × Bool)
 | 0, _, _, _, _, _ => none
 | k + 1, x0, x6, x7, x8, x9 => if x9 < x6 then (palaverref05_Parts.l1 k x0 x6 x7 (wrap64 (2 * x8)) (wrap64 (x9 + 1))) else (if x7 ≥ x8 then (some (0, ([] : List ByteArray), ([] : List ByteArray), false)) else (palaverref05_Parts.l2 k x0 x7 ([] : List ByteArray) 2))
def palaverref05_Parts.l2 : Nat → ByteArray → Int → List ByteArray → Int → Option (Int × List ByteArray × List ByteArray × Bool)
 | 0, _, _, _, _ => none
 | k + 1, x0, x7, x10, x11 => if x11 < (x0.size : Int) then (if 0 ≤ x11 then (if x11 ≤ (wrap64 (x11 + 32)) then (if (wrap64 (x11 + 32)) ≤ (x0.size : Int) then (if x10.length < 8796093022208 then (palaverref05_Parts.l2 k x0 x7 (x10 ++ [x0.extract (x11 : Int).toNat ((wrap64 (x11 + 32)) : Int).toNat]) (wrap64 (x11 + 32))) else (none)) else (none)) else (none)) else (none)) else (if 67 ≤ x10.length then (some (x7, x10.take 67, x10.drop 67, true)) else (none))
end
def palaverref05_Parts.f (k : Nat) (a0 : ByteArray) : Option (Int × List ByteArray × List ByteArray × Bool) := palaverref05_Parts.l0 k a0 0
theorem palaverref05_Parts.mono_l : ∀ k, (∀ y0 y1, LeO (palaverref05_Parts.l0 k y0 y1) (palaverref05_Parts.l0 (k + 1) y0 y1)) ∧ (∀ y0 y1 y2 y3 y4, LeO (palaverref05_Parts.l1 k y0 y1 y2 y3 y4) (palaverref05_Parts.l1 (k + 1) y0 y1 y2 y3 y4)) ∧ (∀ y0 y1 y2 y3, LeO (palaverref05_Parts.l2 k y0 y1 y2 y3) (palaverref05_Parts.l2 (k + 1) y0 y1 y2 y3))
 | 0 => ⟨fun _ _ r h => by simp [palaverref05_Parts.l0] at h, fun _ _ _ _ _ r h => by simp [palaverref05_Parts.l1] at h, fun _ _ _ _ r h => by simp [palaverref05_Parts.l2] at h⟩
 | k + 1 => by
  obtain ⟨ih0, ih1, ih2⟩ := palaverref05_Parts.mono_l k
  refine ⟨?_, ?_, ?_⟩ <;> intros <;> (first | unfold palaverref05_Parts.l0 | unfold palaverref05_Parts.l1 | unfold palaverref05_Parts.l2) <;> repeat' first
  | (with_reducible exact ih0 _ _)
  | (with_reducible exact ih1 _ _ _ _ _)
  | (with_reducible exact ih2 _ _ _ _)
  | (with_reducible exact palaverref01_Value.mono _ _)
  | (with_reducible exact LeO.refl _)
  | (with_reducible exact LeO.none _)
  | (with_reducible refine LeO.ite ?_ ?_)
  | (with_reducible refine LeO.bind ?_ (fun _ => ?_))
  | exact ih0 _ _
  | exact ih1 _ _ _ _ _
  | exact ih2 _ _ _ _
  | exact palaverref01_Value.mono _ _
  | exact LeO.none _
  | refine LeO.ite ?_ ?_
  | refine LeO.bind ?_ (fun _ => ?_)
theorem palaverref05_Parts.mono : ∀ a0 k, LeO (palaverref05_Parts.f k a0) (palaverref05_Parts.f (k + 1) a0) := by
 intro a0 k
 obtain ⟨ih0, ih1, ih2⟩ := palaverref05_Parts.mono_l k
 unfold palaverref05_Parts.f
 repeat' first
  | (with_reducible exact ih0 _ _)
  | (with_reducible exact ih1 _ _ _ _ _)
  | (with_reducible exact ih2 _ _ _ _)
  | (with_reducible exact palaverref01_Value.mono _ _)
  | (with_reducible exact LeO.refl _)
  | (with_reducible exact LeO.none _)
  | (with_reducible refine LeO.ite ?_ ?_)
  | (with_reducible refine LeO.bind ?_ (fun _ => ?_))
  | exact ih0 _ _
  | exact ih1 _ _ _ _ _
  | exact ih2 _ _ _ _
  | exact palaverref01_Value.mono _ _
  | exact LeO.none _
  | refine LeO.ite ?_ ?_
  | refine LeO.bind ?_ (fun _ => ?_)
set_option maxHeartbeats 64000000 in
set_option maxRecDepth 100000 in
theorem palaverref05_Parts.calls (k : Nat) (a0 : ByteArray) (r1 : Int) (r2 : List ByteArray) (r3 : List ByteArray) (r4 : Bool) (w : World) (h : palaverref05_Parts.f k a0 = some (r1, r2, r3, r4)) :
 Calls Tryz.prog 12 #[.string a0] w fun e w' => ∃ (A1_ A2_ : Option Addr) (c1_ c2_ : Nat), e = .returned (.tuple #[.int .i64 r1, .slice A1_ r2.length c1_, .slice A2_ r3.length c2_, .bool r4]) ∧ Kd.C Kd.string w' A1_ r2.length r2 ∧ r2.length ≤ c1_ ∧ Kd.C Kd.string w' A2_ r3.length r3 ∧ r3.length ≤ c2_ ∧ Below w.heap.size w w' := by
 have HB := Aside0.mk (Below.refl w.heap.size w)
 have H : (palaverref05_Parts.l0 k a0 0) = some (r1, r2, r3, r4) := h
 clear h
 have H' := Aside0.mk H
 clear H
 go_enter Tryz.func12, Tryz.ntmps12
 go_wp2
 repeat (go_quiet (fail); try go_wp2)
 go_loopg [6] k (fun kq v6 w' => ∃ (x6_1 : Int), v6 = .int .i64 x6_1 ∧ Aside0 (palaverref05_Parts.l0 kq a0 x6_1 = some (r1, r2, r3, r4)) ∧ Aside0 (kq ≤ k) ∧ Aside0 (Below w.heap.size w w'))
 case atStart => exact ⟨(0), vq_, H', ⟨Nat.le_refl _⟩, ⟨bl_⟩⟩
 case round =>
  clear H'
  (try clear c1)
  obtain ⟨x6_1, rfl, HA, HK1, HB⟩ := hrel
  cases gk with
  | zero => exact absurd HA.out (by simp [palaverref05_Parts.l0])
  | succ k1 =>
   have H := HA.out
   clear HA
   simp only [palaverref05_Parts.l0] at H
   by_cases c2 : x6_1 ≤ 4
   ·rw [if_pos c2] at H
    have c2b0 : decide (x6_1 ≤ 4) = true := decide_eq_true c2
    clear c2
    by_cases c3 : (a0.size : Int) = (wrap64 (2 + (wrap64 (32 * (wrap64 (67 + x6_1))))))
    ·rw [if_pos c3] at H
     have c3b0 : ((a0.size : Int) == (wrap64 (2 + (wrap64 (32 * (wrap64 (67 + x6_1))))))) = true := beq_iff_eq.mpr c3
     have c3b1 : ((a0.size : Int) != (wrap64 (2 + (wrap64 (32 * (wrap64 (67 + x6_1))))))) = false := bne_eq_false_iff_eq.mpr c3
     clear c3
     revert H; refine ne_ fun c4 c4b0 c4b1 => ne_ fun c5 c5b0 c5b1 => oa_ fun t387 A6 H => ?_
     clear c4 c5
     have H' := Aside0.mk H
     clear H
     go_wp2_with (first | (go_at_call 39; (with_reducible refine (palaverref01_Value.calls k1 (a0.extract 0 2) t387 _ A6.out).mono ?_); rintro e w' ⟨rfl, ⟨nd, rfl⟩⟩; (try first | exact ⟨rfl, _, World.drewN_drewN _ _ _⟩ | exact ⟨rfl, _, Eq.trans (World.drewN_drewN _ _ _) (congrArg (World.drewN _) (Nat.add_assoc _ _ _))⟩)))
     go_loopg [8, 9] k1 (fun kq v8 v9 w' => ∃ (x8_2 : Int) (x9_2 : Int), v8 = .int .i64 x8_2 ∧ v9 = .int .i64 x9_2 ∧ Aside0 (palaverref05_Parts.l1 kq a0 x6_1 t387 x8_2 x9_2 = some (r1, r2, r3, r4)) ∧ Aside0 (kq ≤ k1) ∧ Aside0 (Below w.heap.size w w'))
     case atStart => exact ⟨(1), (0), vq_, vq_, H', ⟨Nat.le_refl _⟩, ⟨bl_⟩⟩
     case round =>
      clear H'
      (try clear c1); (try clear c2); (try clear c2b0); (try clear p2); (try clear c3); (try clear c3b0); (try clear c3b1); (try clear c4); (try clear c4b0); (try clear c4b1); (try clear c5); (try clear c5b0); (try clear c5b1); (try clear p6)
      obtain ⟨x8_2, x9_2, rfl, rfl, HA, HK2, HB⟩ := hrel
      cases gk with
      | zero => exact absurd HA.out (by simp [palaverref05_Parts.l1])
      | succ k2 =>
       have H := HA.out
       clear HA
       simp only [palaverref05_Parts.l1] at H
       by_cases c7 : x9_2 < x6_1
       ·rw [if_pos c7] at H
        have c7b0 : decide (x9_2 < x6_1) = true := decide_eq_true c7
        clear c7
        have H' := Aside0.mk H
        clear H
        go_wp2
        repeat (go_quiet (fail); try go_wp2)
        go_roundg k2
        case measure => have := HK1.out; have := HK2.out; omega
        case rel => exact ⟨(wrap64 (2 * x8_2)), (wrap64 (x9_2 + 1)), vq_, vq_, H', ⟨by have := HK1.out; have := HK2.out; omega⟩, ⟨bl_⟩⟩
       rw [if_neg c7] at H
       have c7b0 : decide (x9_2 < x6_1) = false := decide_eq_false c7
       clear c7
       by_cases c8 : t387 ≥ x8_2
       ·rw [if_pos c8] at H
        have c8b0 : decide (x8_2 ≤ t387) = true := decide_eq_true c8
        clear c8
        simp only [Option.some.injEq, Prod.mk.injEq] at H
        obtain ⟨rfl, rfl, rfl, rfl⟩ := H
        go_wp2
        repeat (go_quiet (fail); try go_wp2)
        refine bodyPost_ret (results_list (rs := [.tmp 2, .tmp 3, .tmp 4, .tmp 5]) rfl (by simp) (.tmp (.tmp (.tmp (.tmp .nil))))) rfl ?_
        exact ⟨none, none, 0, 0, er_, Kd.C_nil _ _, Nat.le_refl _, Kd.C_nil _ _, Nat.le_refl _, bl_⟩
       rw [if_neg c8] at H
       have c8b0 : decide (x8_2 ≤ t387) = false := decide_eq_false c8
       clear c8
       have H' := Aside0.mk H
       clear H
       go_wp2
       repeat (go_quiet (fail); try go_wp2)
       go_loopg [10, 11] k2 (fun kq v10 v11 w' => ∃ (x10_3 : List ByteArray) (x11_3 : Int), v11 = .int .i64 x11_3 ∧ Aside0 (palaverref05_Parts.l2 kq a0 t387 x10_3 x11_3 = some (r1, r2, r3, r4)) ∧ Aside0 (kq ≤ k2) ∧ Aside0 (Kd.R Kd.string 9 w' w.heap.size (fun _ => True) v10 x10_3) ∧ Aside0 (Below w.heap.size w w'))
       case atStart => exact ⟨(([] : List ByteArray)), (2), vq_, H', ⟨Nat.le_refl _⟩, ⟨by first | exact Kd.R_nil _ _ _ _ _ | exact Kd.N_nil _ _ _ _ _ | exact Kd.V_nil _ _ _ _ _ | exact Kd.Q_nil _ _ _ _ _ | exact Kd.S_nil _ _ _ _ _⟩, ⟨bl_⟩⟩
       case round =>
        clear H'
        (try clear c1); (try clear c2); (try clear c2b0); (try clear p2); (try clear c3); (try clear c3b0); (try clear c3b1); (try clear c4); (try clear c4b0); (try clear c4b1); (try clear c5); (try clear c5b0); (try clear c5b1); (try clear p6); (try clear c7); (try clear c7b0); (try clear c8); (try clear c8b0); (try clear p2); (try clear p6)
        obtain ⟨x10_3, x11_3, rfl, HA, HK3, HO_10, HB⟩ := hrel
        cases gk with
        | zero => exact absurd HA.out (by simp [palaverref05_Parts.l2])
        | succ k3 =>
         have H := HA.out
         clear HA
         simp only [palaverref05_Parts.l2] at H
         by_cases c9 : x11_3 < (a0.size : Int)
         ·rw [if_pos c9] at H
          have c9b0 : decide (x11_3 < (a0.size : Int)) = true := decide_eq_true c9
          clear c9
          revert H; refine ne_ fun c10 c10b0 c10b1 => ne_ fun c11 c11b0 c11b1 => ne_ fun c12 c12b0 c12b1 => nc_ fun c13 H => ?_
          have LMc13 := Aside0.mk c13
          clear c10 c13
          generalize e_ : (x10_3 ++ [a0.extract (x11_3 : Int).toNat ((wrap64 (x11_3 + 32)) : Int).toNat] : List ByteArray) = y388 at H
          have Ny388 := Aside0.mk e_.symm
          clear e_
          have H' := Aside0.mk H
          clear H
          go_wp2_with (first | ((with_reducible refine gate_builtin (b := .append) (xs := #[.tmp 42, .tmp 48]) rfl ?_); at_builtin; refine Kd.R_append Kd.string (w0 := w) w.heap.size rfl (.tmp 42) (.tmp 48) 24 9 (.string ⟨#[]⟩) 16 rfl Tryz.underlying24 info9 rfl (by decide) (by omega) u10 x10_3 (a0.extract (x11_3 : Int).toNat ((wrap64 (x11_3 + 32)) : Int).toNat) [.string (a0.extract (x11_3 : Int).toNat ((wrap64 (x11_3 + 32)) : Int).toNat)] (fun _ => True) (fun _ => False) rfl rfl ?aP (fun _ hk => hk.elim) ?aF ?aO ?aB ?aS ?aL ?_; (case aP => exact rfl); (case aB => exact bl_); (case aF => exact (fun _ _ => trivial)); (case aO => exact (mv_ HO_10.out)); (case aS => exact (below_size bl_)); (case aL => have := LMc13.out; omega); intro v389 w14 ho hb hg hat; rw [← Ny388.out] at ho; have HO390 := Aside0.mk (ho); replace HB := Aside0.mk (hb); clear HO_10; clear ho hb hg hat))
          repeat (go_quiet (fail); try go_wp2)
          go_roundg k3
          case measure => have := HK1.out; have := HK2.out; have := HK3.out; omega
          case rel => exact ⟨(y388), (wrap64 (x11_3 + 32)), vq_, H', ⟨by have := HK1.out; have := HK2.out; have := HK3.out; omega⟩, ⟨mv_ HO390.out⟩, ⟨bl_⟩⟩
         rw [if_neg c9] at H
         have c9b0 : decide (x11_3 < (a0.size : Int)) = false := decide_eq_false c9
         clear c9
         have c67_ : 67 ≤ x10_3.length := by by_cases z_ : 67 ≤ x10_3.length <;> first | exact z_ | (rw [if_neg z_] at H; cases H)
         rw [if_pos c67_] at H
         obtain ⟨A_, c_, e_⟩ := Kd.R_slice HO_10.out
         subst e_
         have hc_ := (Kd.R_reads' HO_10.out).2.1
         obtain ⟨i0_, hi0_, _, hsz_, _⟩ := info_parts info9
         have k1_ := cut_to (P := Tryz.prog) 24 9 .i64 Tryz.underlying24 hi0_ A_ x10_3.length c_ 67 (by decide) (by omega) hc_
         have k2_ := cut_from (P := Tryz.prog) 24 9 .i64 Tryz.underlying24 hi0_ 1 hsz_ A_ x10_3.length c_ 67 (by decide) (by omega)
         obtain ⟨A2_, hA2_⟩ : ∃ z : Option Addr, (if c_ = 67 then A_ else A_.map (·.add (67 * 1))) = z := ⟨_, rfl⟩
         replace k2_ : ∀ W : World, (Instr.slice 24 (.slice A_ x10_3.length c_) (some (.int .i64 67)) none none).run Tryz.prog W = .ok (.slice A2_ (x10_3.length - 67) (c_ - 67)) W := by intro W; rw [k2_ W]; show Result.ok (Value.slice (if c_ = 67 then A_ else A_.map (·.add (67 * 1))) _ _) W = _; rw [hA2_]; rfl
         replace k1_ : ∀ W : World, (Instr.slice 24 (.slice A_ x10_3.length c_) none (some (.int .i64 67)) none).run Tryz.prog W = .ok (.slice A_ 67 c_) W := k1_
         simp only [Option.some.injEq, Prod.mk.injEq] at H
         obtain ⟨rfl, rfl, rfl, rfl⟩ := H
         go_wp2
         repeat (go_quiet (fail); try go_wp2)
         refine bodyPost_ret (results_list (rs := [.tmp 2, .tmp 3, .tmp 4, .tmp 5]) rfl (by simp) (.tmp (.tmp (.tmp (.tmp .nil))))) rfl ?_
         have hC_ := (Kd.R_reads' HO_10.out).2.2
         have l1_ : (x10_3.take 67).length = 67 := by rw [List.length_take]; omega
         have l2_ : (x10_3.drop 67).length = x10_3.length - 67 := List.length_drop
         have hT_ := Kd.C_take (m := 67) hC_ c67_
         have hD_ := Kd.C_drop (m := 67) hC_ c67_ hc_
         rw [show (if c_ = 67 then A_ else A_.map (·.add (67 * Kd.string.sz))) = A2_ from hA2_] at hD_
         exact ⟨A_, A2_, c_, c_ - 67, by rw [l1_, l2_]; rfl, by (with_reducible repeat (first | apply Kd.C_alloc | apply Kd.C_drewN | apply Kd.C_drew)); exact hT_, by omega, by (with_reducible repeat (first | apply Kd.C_alloc | apply Kd.C_drewN | apply Kd.C_drew)); exact hD_, by omega, bl_⟩
    rw [if_neg c3] at H
    have c3b0 : ((a0.size : Int) == (wrap64 (2 + (wrap64 (32 * (wrap64 (67 + x6_1))))))) = false := beq_eq_false_iff_ne.mpr c3
    have c3b1 : ((a0.size : Int) != (wrap64 (2 + (wrap64 (32 * (wrap64 (67 + x6_1))))))) = true := bne_iff_ne.mpr c3
    have H' := Aside0.mk H
    clear H
    go_wp2
    repeat (go_quiet (fail); try go_wp2)
    go_roundg k1
    case measure => have := HK1.out; omega
    case rel => exact ⟨(wrap64 (x6_1 + 1)), vq_, H', ⟨by have := HK1.out; omega⟩, ⟨bl_⟩⟩
   rw [if_neg c2] at H
   have c2b0 : decide (x6_1 ≤ 4) = false := decide_eq_false c2
   clear c2
   simp only [Option.some.injEq, Prod.mk.injEq] at H
   obtain ⟨rfl, rfl, rfl, rfl⟩ := H
   go_wp2
   repeat (go_quiet (fail); try go_wp2)
   refine bodyPost_ret (results_list (rs := [.tmp 2, .tmp 3, .tmp 4, .tmp 5]) rfl (by simp) (.tmp (.tmp (.tmp (.tmp .nil))))) rfl ?_
   exact ⟨none, none, 0, 0, er_, Kd.C_nil _ _, Nat.le_refl _, Kd.C_nil _ _, Nat.le_refl _, bl_⟩

end Go.Proofs.YtnfbagkeenjifaaGreatDoor.PP
