-- WRITTEN BY a program of this work (wip/ownprint.py), for this seat
import Derived.Test.YtkdbobccchkdjaaDoorPPx0
namespace Go.Proofs.YtkdbobccchkdjaaDoor.PP
open Go.RowKit Go.Proofs.YtkdbobccchkdjaaDoorW.PrintWords Go.Proofs.YtkdbobccchkdjaaDoorW.PrintLast Go.Proofs.YtkdbobccchkdjaaDoorW.PrintMore
attribute [local go_sem] max2_int min2_int max_two min_two max_three min_three max_four min_four   -- for this text's walks alone
set_option linter.unusedVariables false
set_option linter.unusedSimpArgs false

/-! ### palaverref02_Padded: function 46 (walked by hand) -/
/-- How many zeros. -/
def palaverref02_Padded.zs (n : Nat) : Nat := (64 - (n + 9) % 64) % 64
/-- The length in bits, as eight bytes. -/
def palaverref02_Padded.be (n : Int) (i : Nat) : Int := n / 256 ^ (7 - i) % 256
def palaverref02_Padded.f (k : Nat) (a0 : ByteArray) : Option ByteArray :=
  if a0.size ≤ 140737488355000 then some (strOfNums (((bytesOf a0 ++ [128]) ++ List.replicate (palaverref02_Padded.zs a0.size) 0) ++ (List.range 8).map (palaverref02_Padded.be (8 * (a0.size : Int))))) else none
theorem palaverref02_Padded.mono : ∀ a0 k, LeO (palaverref02_Padded.f k a0) (palaverref02_Padded.f (k + 1) a0) := fun _ _ => LeO.refl _
theorem palaverref02_Padded.test (n : Nat) (hn : n ≤ 140737488355000) (j : Int) (h0 : 0 ≤ j) (h1 : j ≤ (palaverref02_Padded.zs n : Int)) : (j < (palaverref02_Padded.zs n : Int) → ¬ ((n : Int) + 1 + j + 8) % 64 = 0) ∧ (j = (palaverref02_Padded.zs n : Int) → ((n : Int) + 1 + j + 8) % 64 = 0) := by
  unfold palaverref02_Padded.zs at *
  omega
theorem palaverref02_Padded.next {xs pre : List Int} {n : Int} (i : Nat) (c : Int) (h : xs = pre ++ (List.range i).map (palaverref02_Padded.be n)) (hc : c = palaverref02_Padded.be n i := by rfl) : xs ++ [c] = pre ++ (List.range (i + 1)).map (palaverref02_Padded.be n) := by
  rw [List.range_succ, List.map_append, List.map_cons, List.map_nil, ← List.append_assoc, ← hc, ← h]
set_option maxHeartbeats 8000000 in
set_option maxRecDepth 100000 in
theorem palaverref02_Padded.calls (k : Nat) (a0 : ByteArray) (r : ByteArray) (w : World) (h : palaverref02_Padded.f k a0 = some r) :
    Calls Tryd.prog 46 #[.string a0] w fun e w' => e = .returned (.string r) ∧ Below w.heap.size w w' := by
  unfold palaverref02_Padded.f at h
  have hn : a0.size ≤ 140737488355000 := by
    by_cases hh : a0.size ≤ 140737488355000
    · exact hh
    · rw [if_neg hh] at h; cases h
  rw [if_pos hn] at h
  have HRr := Aside0.mk (Option.some.inj h)
  have HN := Aside0.mk hn
  obtain ⟨i0, hi, hz0, hz1, hz2⟩ := info_parts (show (Tryd.prog.info? 5).map (fun i => (i.zero, i.size, i.bytes)) = some (some (.int .u8 0), 1, 1) by kernel_rfl)
  have hu : IntKind.u64.wrap (a0.size : Int) = (a0.size : Int) := by simp only [IntKind.wrap, IntKind.bits, IntKind.signed]; simp; omega
  have hu8 : IntKind.u64.wrap (8 * (a0.size : Int)) = 8 * (a0.size : Int) := by simp only [IntKind.wrap, IntKind.bits, IntKind.signed]; simp; omega
  have hz : palaverref02_Padded.zs a0.size < 64 := by unfold palaverref02_Padded.zs; omega
  clear h hn
  go_enter Tryd.func46, Tryd.ntmps46
  go_wp2
  go_loopg [4] (palaverref02_Padded.zs a0.size) (fun kq v4 w' => ∃ x : Int, v4 = .int .i64 x ∧ Aside0 (0 ≤ x ∧ x + (kq : Int) = (palaverref02_Padded.zs a0.size : Int)) ∧ Aside0 (Below w.heap.size w w'))
  case atStart => exact ⟨0, rfl, ⟨by omega⟩, ⟨Below.refl _ _⟩⟩
  case round =>
    obtain ⟨x, rfl, HP, HB⟩ := hrel
    have hx := HP.out
    have hx0 : 0 ≤ x := hx.1
    have hx1 : x ≤ 63 := by omega
    have hn1 : (a0.size : Int) ≤ 140737488355000 := by have := HN.out; omega
    have ht := palaverref02_Padded.test a0.size HN.out x hx.1 (by omega)
    cases gk with
    | zero =>
      have hc := ht.2 (by omega)
      obtain rfl : x = (palaverref02_Padded.zs a0.size : Int) := by omega
      clear ht hx HP
      go_wp2_with (first | ((with_reducible refine gate_dst (N := 22) rfl ?_); refine convM_event (P := Tryd.prog) rfl (N := 22) rfl 9 53 5 _ rfl a0 rfl w.heap.size (below_size HB.out) Tryd.underlying9 Tryd.underlying53 Tryd.underlying5 (by have := HN.out; omega) ?_; intro v1 w1 hv hb; have HM := Aside0.mk hv; have n0_ := Aside0.mk (below_step HB.out hb); clear HB hv hb; have HB := n0_; clear n0_) | ((with_reducible refine gate_dst (N := 23) rfl ?_); refine Kd.event_run (w1 := w1.alloc (.cells (encs (Value.int .u8) [128]).toArray 5)) (v := .slice (some ⟨w1.heap.size, 0, none⟩) 1 1) ?hg ?hr ?_; (case hg => rfl); (case hr => first | (go_simp; done) | (go_simp; rfl)); have HC := Aside0.mk (lit_cells w1 (128) 5); have hbA := below_alloc (Below.refl w1.heap.size w1) (.cells (encs (Value.int .u8) [128]).toArray 5); have m0_ := Aside0.mk (HM.out.below hbA); have n0_ := Aside0.mk (below_step HB.out hbA); clear HM HB hbA; have HM := m0_; have HB := n0_; clear m0_ n0_; obtain ⟨w2, hw_⟩ : ∃ z_, z_ = w1.alloc (.cells (encs (Value.int .u8) [128]).toArray 5) := ⟨_, rfl⟩; rw [← hw_] at HM HB HC; rw [← hw_]; clear hw_) | ((with_reducible refine gate_dst (N := 24) rfl ?_); refine appendM_event (P := Tryd.prog) (base := w.heap.size) (w0 := w) rfl (N := 24) rfl _ _ 53 53 5 i0 rfl rfl Tryd.underlying53 hi hz0 hz1 hz2 rfl HM.out (below_size HB.out) HB.out ⟨w1.heap.size, 0, none⟩ 1 [128] 1 rfl rfl HC.out (by have := HN.out; simp [bytesOf_length] <;> omega) ?_; intro v3 w3 hv hb; have m0_ := Aside0.mk hv; have n0_ := Aside0.mk hb; clear HM HB HC hv hb; have HM := m0_; have HB := n0_; clear m0_ n0_) | ((with_reducible refine gate_dst (N := 27) rfl ?_); refine appendZ_event (P := Tryd.prog) (base := w.heap.size) (w0 := w) rfl (N := 27) rfl _ _ 53 3 53 5 i0 rfl rfl Tryd.underlying53 Tryd.underlying3 hi hz0 hz1 hz2 rfl HM.out (below_size HB.out) HB.out .i64 (palaverref02_Padded.zs a0.size) rfl (by have := HN.out; simp [bytesOf_length] <;> omega) ?_; intro v4_ w4 hv hb; have m0_ := Aside0.mk hv; have n0_ := Aside0.mk hb; clear HM HB hv hb; have HM := m0_; have HB := n0_; clear m0_ n0_))
      go_loopg [5, 6] 8 (fun kq v5 v6 w' => ∃ (i : Nat) (xs : List Int), v6 = .int .i64 i ∧ Aside0 (i + kq = 8) ∧ Aside0 (xs = ((bytesOf a0 ++ [128]) ++ List.replicate (palaverref02_Padded.zs a0.size) 0) ++ (List.range i).map (palaverref02_Padded.be (8 * (a0.size : Int)))) ∧ Aside0 (OwnM w' w.heap.size 5 v5 xs) ∧ Aside0 (Below w.heap.size w w'))
      case atStart => exact ⟨0, _, rfl, ⟨rfl⟩, ⟨by rw [List.range_zero, List.map_nil, List.append_nil]⟩, ⟨HM.out⟩, ⟨HB.out⟩⟩
      case round =>
        obtain ⟨i, xs, rfl, HP, HX, HM, HB⟩ := hrel
        have hxl : xs.length ≤ 140737488355200 := by have := HN.out; rw [HX.out]; simp [bytesOf_length] <;> (have := HP.out; omega)
        have HXL := Aside0.mk hxl
        clear hxl
        cases gk with
        | zero =>
          obtain rfl : i = 8 := by have := HP.out; omega
          obtain ⟨g, cap, rfl, hg, hC⟩ := HM.out.reads
          have hconv := Kd.C_string (P := Tryd.prog) Tryd.underlying53 Tryd.underlying5 Tryd.underlying9 (c := cap) hC
          go_wp2
          go_ret
          exact ⟨congrArg (fun z_ => Ending.returned (Value.string z_)) ((congrArg strOfNums HX.out).trans HRr.out), HB.out⟩
        | succ k1 =>
          have hi7 : i = 0 ∨ i = 1 ∨ i = 2 ∨ i = 3 ∨ i = 4 ∨ i = 5 ∨ i = 6 ∨ i = 7 := by have := HP.out; omega
          have hk := HP.out
          rcases hi7 with rfl | rfl | rfl | rfl | rfl | rfl | rfl | rfl
          · go_wp2_with (first | ((with_reducible refine gate_dst (N := 42) rfl ?_); refine Kd.event_run (w1 := wr.alloc (.cells (encs (Value.int .u8) [(8 * (a0.size : Int)) / 72057594037927936 % 256]).toArray 5)) (v := .slice (some ⟨wr.heap.size, 0, none⟩) 1 1) ?hg ?hr ?_; (case hg => rfl); (case hr => first | (go_simp; done) | (go_simp; rfl)); have HC := Aside0.mk (lit_cells wr ((8 * (a0.size : Int)) / 72057594037927936 % 256) 5); have hbA := below_alloc (Below.refl wr.heap.size wr) (.cells (encs (Value.int .u8) [(8 * (a0.size : Int)) / 72057594037927936 % 256]).toArray 5); have m0_ := Aside0.mk (HM.out.below hbA); have n0_ := Aside0.mk (below_step HB.out hbA); clear HM HB hbA; have HM := m0_; have HB := n0_; clear m0_ n0_; obtain ⟨w5, hw_⟩ : ∃ z_, z_ = wr.alloc (.cells (encs (Value.int .u8) [(8 * (a0.size : Int)) / 72057594037927936 % 256]).toArray 5) := ⟨_, rfl⟩; rw [← hw_] at HM HB HC; rw [← hw_]; clear hw_) | ((with_reducible refine gate_dst (N := 43) rfl ?_); refine appendM_event (P := Tryd.prog) (base := w.heap.size) (w0 := w) rfl (N := 43) rfl _ _ 53 53 5 i0 rfl rfl Tryd.underlying53 hi hz0 hz1 hz2 rfl HM.out (below_size HB.out) HB.out ⟨wr.heap.size, 0, none⟩ 1 [(8 * (a0.size : Int)) / 72057594037927936 % 256] 1 rfl rfl HC.out (by have := HXL.out; simp <;> omega) ?_; intro v6_ w6 hv hb; have m0_ := Aside0.mk hv; have n0_ := Aside0.mk hb; clear HM HB HC hv hb; have HM := m0_; have HB := n0_; clear m0_ n0_))
            go_roundg k1
            case measure => omega
            case rel => exact ⟨1, _, rfl, ⟨by omega⟩, ⟨palaverref02_Padded.next 0 _ HX.out⟩, ⟨HM.out⟩, ⟨HB.out⟩⟩
          · go_wp2_with (first | ((with_reducible refine gate_dst (N := 42) rfl ?_); refine Kd.event_run (w1 := wr.alloc (.cells (encs (Value.int .u8) [(8 * (a0.size : Int)) / 281474976710656 % 256]).toArray 5)) (v := .slice (some ⟨wr.heap.size, 0, none⟩) 1 1) ?hg ?hr ?_; (case hg => rfl); (case hr => first | (go_simp; done) | (go_simp; rfl)); have HC := Aside0.mk (lit_cells wr ((8 * (a0.size : Int)) / 281474976710656 % 256) 5); have hbA := below_alloc (Below.refl wr.heap.size wr) (.cells (encs (Value.int .u8) [(8 * (a0.size : Int)) / 281474976710656 % 256]).toArray 5); have m0_ := Aside0.mk (HM.out.below hbA); have n0_ := Aside0.mk (below_step HB.out hbA); clear HM HB hbA; have HM := m0_; have HB := n0_; clear m0_ n0_; obtain ⟨w5, hw_⟩ : ∃ z_, z_ = wr.alloc (.cells (encs (Value.int .u8) [(8 * (a0.size : Int)) / 281474976710656 % 256]).toArray 5) := ⟨_, rfl⟩; rw [← hw_] at HM HB HC; rw [← hw_]; clear hw_) | ((with_reducible refine gate_dst (N := 43) rfl ?_); refine appendM_event (P := Tryd.prog) (base := w.heap.size) (w0 := w) rfl (N := 43) rfl _ _ 53 53 5 i0 rfl rfl Tryd.underlying53 hi hz0 hz1 hz2 rfl HM.out (below_size HB.out) HB.out ⟨wr.heap.size, 0, none⟩ 1 [(8 * (a0.size : Int)) / 281474976710656 % 256] 1 rfl rfl HC.out (by have := HXL.out; simp <;> omega) ?_; intro v6_ w6 hv hb; have m0_ := Aside0.mk hv; have n0_ := Aside0.mk hb; clear HM HB HC hv hb; have HM := m0_; have HB := n0_; clear m0_ n0_))
            go_roundg k1
            case measure => omega
            case rel => exact ⟨2, _, rfl, ⟨by omega⟩, ⟨palaverref02_Padded.next 1 _ HX.out⟩, ⟨HM.out⟩, ⟨HB.out⟩⟩
          · go_wp2_with (first | ((with_reducible refine gate_dst (N := 42) rfl ?_); refine Kd.event_run (w1 := wr.alloc (.cells (encs (Value.int .u8) [(8 * (a0.size : Int)) / 1099511627776 % 256]).toArray 5)) (v := .slice (some ⟨wr.heap.size, 0, none⟩) 1 1) ?hg ?hr ?_; (case hg => rfl); (case hr => first | (go_simp; done) | (go_simp; rfl)); have HC := Aside0.mk (lit_cells wr ((8 * (a0.size : Int)) / 1099511627776 % 256) 5); have hbA := below_alloc (Below.refl wr.heap.size wr) (.cells (encs (Value.int .u8) [(8 * (a0.size : Int)) / 1099511627776 % 256]).toArray 5); have m0_ := Aside0.mk (HM.out.below hbA); have n0_ := Aside0.mk (below_step HB.out hbA); clear HM HB hbA; have HM := m0_; have HB := n0_; clear m0_ n0_; obtain ⟨w5, hw_⟩ : ∃ z_, z_ = wr.alloc (.cells (encs (Value.int .u8) [(8 * (a0.size : Int)) / 1099511627776 % 256]).toArray 5) := ⟨_, rfl⟩; rw [← hw_] at HM HB HC; rw [← hw_]; clear hw_) | ((with_reducible refine gate_dst (N := 43) rfl ?_); refine appendM_event (P := Tryd.prog) (base := w.heap.size) (w0 := w) rfl (N := 43) rfl _ _ 53 53 5 i0 rfl rfl Tryd.underlying53 hi hz0 hz1 hz2 rfl HM.out (below_size HB.out) HB.out ⟨wr.heap.size, 0, none⟩ 1 [(8 * (a0.size : Int)) / 1099511627776 % 256] 1 rfl rfl HC.out (by have := HXL.out; simp <;> omega) ?_; intro v6_ w6 hv hb; have m0_ := Aside0.mk hv; have n0_ := Aside0.mk hb; clear HM HB HC hv hb; have HM := m0_; have HB := n0_; clear m0_ n0_))
            go_roundg k1
            case measure => omega
            case rel => exact ⟨3, _, rfl, ⟨by omega⟩, ⟨palaverref02_Padded.next 2 _ HX.out⟩, ⟨HM.out⟩, ⟨HB.out⟩⟩
          · go_wp2_with (first | ((with_reducible refine gate_dst (N := 42) rfl ?_); refine Kd.event_run (w1 := wr.alloc (.cells (encs (Value.int .u8) [(8 * (a0.size : Int)) / 4294967296 % 256]).toArray 5)) (v := .slice (some ⟨wr.heap.size, 0, none⟩) 1 1) ?hg ?hr ?_; (case hg => rfl); (case hr => first | (go_simp; done) | (go_simp; rfl)); have HC := Aside0.mk (lit_cells wr ((8 * (a0.size : Int)) / 4294967296 % 256) 5); have hbA := below_alloc (Below.refl wr.heap.size wr) (.cells (encs (Value.int .u8) [(8 * (a0.size : Int)) / 4294967296 % 256]).toArray 5); have m0_ := Aside0.mk (HM.out.below hbA); have n0_ := Aside0.mk (below_step HB.out hbA); clear HM HB hbA; have HM := m0_; have HB := n0_; clear m0_ n0_; obtain ⟨w5, hw_⟩ : ∃ z_, z_ = wr.alloc (.cells (encs (Value.int .u8) [(8 * (a0.size : Int)) / 4294967296 % 256]).toArray 5) := ⟨_, rfl⟩; rw [← hw_] at HM HB HC; rw [← hw_]; clear hw_) | ((with_reducible refine gate_dst (N := 43) rfl ?_); refine appendM_event (P := Tryd.prog) (base := w.heap.size) (w0 := w) rfl (N := 43) rfl _ _ 53 53 5 i0 rfl rfl Tryd.underlying53 hi hz0 hz1 hz2 rfl HM.out (below_size HB.out) HB.out ⟨wr.heap.size, 0, none⟩ 1 [(8 * (a0.size : Int)) / 4294967296 % 256] 1 rfl rfl HC.out (by have := HXL.out; simp <;> omega) ?_; intro v6_ w6 hv hb; have m0_ := Aside0.mk hv; have n0_ := Aside0.mk hb; clear HM HB HC hv hb; have HM := m0_; have HB := n0_; clear m0_ n0_))
            go_roundg k1
            case measure => omega
            case rel => exact ⟨4, _, rfl, ⟨by omega⟩, ⟨palaverref02_Padded.next 3 _ HX.out⟩, ⟨HM.out⟩, ⟨HB.out⟩⟩
          · go_wp2_with (first | ((with_reducible refine gate_dst (N := 42) rfl ?_); refine Kd.event_run (w1 := wr.alloc (.cells (encs (Value.int .u8) [(8 * (a0.size : Int)) / 16777216 % 256]).toArray 5)) (v := .slice (some ⟨wr.heap.size, 0, none⟩) 1 1) ?hg ?hr ?_; (case hg => rfl); (case hr => first | (go_simp; done) | (go_simp; rfl)); have HC := Aside0.mk (lit_cells wr ((8 * (a0.size : Int)) / 16777216 % 256) 5); have hbA := below_alloc (Below.refl wr.heap.size wr) (.cells (encs (Value.int .u8) [(8 * (a0.size : Int)) / 16777216 % 256]).toArray 5); have m0_ := Aside0.mk (HM.out.below hbA); have n0_ := Aside0.mk (below_step HB.out hbA); clear HM HB hbA; have HM := m0_; have HB := n0_; clear m0_ n0_; obtain ⟨w5, hw_⟩ : ∃ z_, z_ = wr.alloc (.cells (encs (Value.int .u8) [(8 * (a0.size : Int)) / 16777216 % 256]).toArray 5) := ⟨_, rfl⟩; rw [← hw_] at HM HB HC; rw [← hw_]; clear hw_) | ((with_reducible refine gate_dst (N := 43) rfl ?_); refine appendM_event (P := Tryd.prog) (base := w.heap.size) (w0 := w) rfl (N := 43) rfl _ _ 53 53 5 i0 rfl rfl Tryd.underlying53 hi hz0 hz1 hz2 rfl HM.out (below_size HB.out) HB.out ⟨wr.heap.size, 0, none⟩ 1 [(8 * (a0.size : Int)) / 16777216 % 256] 1 rfl rfl HC.out (by have := HXL.out; simp <;> omega) ?_; intro v6_ w6 hv hb; have m0_ := Aside0.mk hv; have n0_ := Aside0.mk hb; clear HM HB HC hv hb; have HM := m0_; have HB := n0_; clear m0_ n0_))
            go_roundg k1
            case measure => omega
            case rel => exact ⟨5, _, rfl, ⟨by omega⟩, ⟨palaverref02_Padded.next 4 _ HX.out⟩, ⟨HM.out⟩, ⟨HB.out⟩⟩
          · go_wp2_with (first | ((with_reducible refine gate_dst (N := 42) rfl ?_); refine Kd.event_run (w1 := wr.alloc (.cells (encs (Value.int .u8) [(8 * (a0.size : Int)) / 65536 % 256]).toArray 5)) (v := .slice (some ⟨wr.heap.size, 0, none⟩) 1 1) ?hg ?hr ?_; (case hg => rfl); (case hr => first | (go_simp; done) | (go_simp; rfl)); have HC := Aside0.mk (lit_cells wr ((8 * (a0.size : Int)) / 65536 % 256) 5); have hbA := below_alloc (Below.refl wr.heap.size wr) (.cells (encs (Value.int .u8) [(8 * (a0.size : Int)) / 65536 % 256]).toArray 5); have m0_ := Aside0.mk (HM.out.below hbA); have n0_ := Aside0.mk (below_step HB.out hbA); clear HM HB hbA; have HM := m0_; have HB := n0_; clear m0_ n0_; obtain ⟨w5, hw_⟩ : ∃ z_, z_ = wr.alloc (.cells (encs (Value.int .u8) [(8 * (a0.size : Int)) / 65536 % 256]).toArray 5) := ⟨_, rfl⟩; rw [← hw_] at HM HB HC; rw [← hw_]; clear hw_) | ((with_reducible refine gate_dst (N := 43) rfl ?_); refine appendM_event (P := Tryd.prog) (base := w.heap.size) (w0 := w) rfl (N := 43) rfl _ _ 53 53 5 i0 rfl rfl Tryd.underlying53 hi hz0 hz1 hz2 rfl HM.out (below_size HB.out) HB.out ⟨wr.heap.size, 0, none⟩ 1 [(8 * (a0.size : Int)) / 65536 % 256] 1 rfl rfl HC.out (by have := HXL.out; simp <;> omega) ?_; intro v6_ w6 hv hb; have m0_ := Aside0.mk hv; have n0_ := Aside0.mk hb; clear HM HB HC hv hb; have HM := m0_; have HB := n0_; clear m0_ n0_))
            go_roundg k1
            case measure => omega
            case rel => exact ⟨6, _, rfl, ⟨by omega⟩, ⟨palaverref02_Padded.next 5 _ HX.out⟩, ⟨HM.out⟩, ⟨HB.out⟩⟩
          · go_wp2_with (first | ((with_reducible refine gate_dst (N := 42) rfl ?_); refine Kd.event_run (w1 := wr.alloc (.cells (encs (Value.int .u8) [(8 * (a0.size : Int)) / 256 % 256]).toArray 5)) (v := .slice (some ⟨wr.heap.size, 0, none⟩) 1 1) ?hg ?hr ?_; (case hg => rfl); (case hr => first | (go_simp; done) | (go_simp; rfl)); have HC := Aside0.mk (lit_cells wr ((8 * (a0.size : Int)) / 256 % 256) 5); have hbA := below_alloc (Below.refl wr.heap.size wr) (.cells (encs (Value.int .u8) [(8 * (a0.size : Int)) / 256 % 256]).toArray 5); have m0_ := Aside0.mk (HM.out.below hbA); have n0_ := Aside0.mk (below_step HB.out hbA); clear HM HB hbA; have HM := m0_; have HB := n0_; clear m0_ n0_; obtain ⟨w5, hw_⟩ : ∃ z_, z_ = wr.alloc (.cells (encs (Value.int .u8) [(8 * (a0.size : Int)) / 256 % 256]).toArray 5) := ⟨_, rfl⟩; rw [← hw_] at HM HB HC; rw [← hw_]; clear hw_) | ((with_reducible refine gate_dst (N := 43) rfl ?_); refine appendM_event (P := Tryd.prog) (base := w.heap.size) (w0 := w) rfl (N := 43) rfl _ _ 53 53 5 i0 rfl rfl Tryd.underlying53 hi hz0 hz1 hz2 rfl HM.out (below_size HB.out) HB.out ⟨wr.heap.size, 0, none⟩ 1 [(8 * (a0.size : Int)) / 256 % 256] 1 rfl rfl HC.out (by have := HXL.out; simp <;> omega) ?_; intro v6_ w6 hv hb; have m0_ := Aside0.mk hv; have n0_ := Aside0.mk hb; clear HM HB HC hv hb; have HM := m0_; have HB := n0_; clear m0_ n0_))
            go_roundg k1
            case measure => omega
            case rel => exact ⟨7, _, rfl, ⟨by omega⟩, ⟨palaverref02_Padded.next 6 _ HX.out⟩, ⟨HM.out⟩, ⟨HB.out⟩⟩
          · go_wp2_with (first | ((with_reducible refine gate_dst (N := 42) rfl ?_); refine Kd.event_run (w1 := wr.alloc (.cells (encs (Value.int .u8) [(8 * (a0.size : Int)) / 1 % 256]).toArray 5)) (v := .slice (some ⟨wr.heap.size, 0, none⟩) 1 1) ?hg ?hr ?_; (case hg => rfl); (case hr => first | (go_simp; done) | (go_simp; rfl)); have HC := Aside0.mk (lit_cells wr ((8 * (a0.size : Int)) / 1 % 256) 5); have hbA := below_alloc (Below.refl wr.heap.size wr) (.cells (encs (Value.int .u8) [(8 * (a0.size : Int)) / 1 % 256]).toArray 5); have m0_ := Aside0.mk (HM.out.below hbA); have n0_ := Aside0.mk (below_step HB.out hbA); clear HM HB hbA; have HM := m0_; have HB := n0_; clear m0_ n0_; obtain ⟨w5, hw_⟩ : ∃ z_, z_ = wr.alloc (.cells (encs (Value.int .u8) [(8 * (a0.size : Int)) / 1 % 256]).toArray 5) := ⟨_, rfl⟩; rw [← hw_] at HM HB HC; rw [← hw_]; clear hw_) | ((with_reducible refine gate_dst (N := 43) rfl ?_); refine appendM_event (P := Tryd.prog) (base := w.heap.size) (w0 := w) rfl (N := 43) rfl _ _ 53 53 5 i0 rfl rfl Tryd.underlying53 hi hz0 hz1 hz2 rfl HM.out (below_size HB.out) HB.out ⟨wr.heap.size, 0, none⟩ 1 [(8 * (a0.size : Int)) / 1 % 256] 1 rfl rfl HC.out (by have := HXL.out; simp <;> omega) ?_; intro v6_ w6 hv hb; have m0_ := Aside0.mk hv; have n0_ := Aside0.mk hb; clear HM HB HC hv hb; have HM := m0_; have HB := n0_; clear m0_ n0_))
            go_roundg k1
            case measure => omega
            case rel => exact ⟨8, _, rfl, ⟨by omega⟩, ⟨palaverref02_Padded.next 7 _ HX.out⟩, ⟨HM.out⟩, ⟨HB.out⟩⟩
    | succ k1 =>
      have hc : (((a0.size : Int) + 1 + x + 8) % 64 != 0) = true := bne_iff_ne.mpr (ht.1 (by omega))
      clear ht hx
      go_wp2
      go_roundg k1
      case measure => omega
      case rel => exact ⟨x + 1, rfl, ⟨by have := HP.out; omega⟩, ⟨HB.out⟩⟩

/-! ### palaverref02_turn: function 47 -/
def palaverref02_turn.f (a0 : Int) (a1 : Int) : Option (Int) := if 0 ≤ a1 then (some (Go.bits .or .u32 (shr .u32 a0 a1) (shl .u32 a0 ((32 - a1) % 4294967296)))) else (none)
set_option maxHeartbeats 64000000 in
set_option maxRecDepth 100000 in
theorem palaverref02_turn.calls (a0 : Int) (a1 : Int) (r : Int) (w : World) (h : palaverref02_turn.f a0 a1 = some r) :
 Calls Tryd.prog 47 #[.int .u32 a0, .int .u32 a1] w fun e w' => e = .returned (.int .u32 r) ∧ Drawn0 w w' := by
 have H : (if 0 ≤ a1 then (some (Go.bits .or .u32 (shr .u32 a0 a1) (shl .u32 a0 ((32 - a1) % 4294967296)))) else (none)) = some r := h
 clear h
 by_cases c3 : 0 ≤ a1
 rotate_left
 ·rw [if_neg c3] at H
  exact absurd H (by simp)
 rw [if_pos c3] at H
 have c3b0 := eq_true c3
 have c3b1 : decide (0 ≤ a1) = true := decide_eq_true c3
 clear c3
 obtain ⟨ji4, hji4⟩ : ∃ j_ : Int, (shr .u32 a0 a1) = j_ := ⟨_, rfl⟩
 replace H : (some (Go.bits .or .u32 (ji4) (shl .u32 a0 ((32 - a1) % 4294967296)))) = some r := by first | (rw [hji4] at H; exact H) | (simp only [hji4] at H ⊢; exact H)
 have hji4_ : (a0 / 2 ^ min a1.toNat 32) = ji4 := hji4
 have hji4z : a1 ≤ 32 → (a0 / 2 ^ a1.toNat) = ji4 := shr_small hji4
 (try (have hji4n : (0 ≤ a1) = True := eq_true (by omega)))
 obtain ⟨ji5, hji5⟩ : ∃ j_ : Int, (shl .u32 a0 ((32 - a1) % 4294967296)) = j_ := ⟨_, rfl⟩
 replace H : (some (Go.bits .or .u32 (ji4) (ji5))) = some r := by first | (rw [hji5] at H; exact H) | (simp only [hji5] at H ⊢; exact H)
 have hji5_ : (IntKind.u32.wrap (a0 * 2 ^ min ((32 - a1) % 4294967296).toNat 32)) = ji5 := hji5
 have hji5z : ((32 - a1) % 4294967296) ≤ 32 → (IntKind.u32.wrap (a0 * 2 ^ ((32 - a1) % 4294967296).toNat)) = ji5 := shl_small hji5
 (try (have hji5n : (0 ≤ ((32 - a1) % 4294967296)) = True := eq_true (by omega)))
 obtain rfl := Option.some.inj H
 go_enter Tryd.func47, Tryd.ntmps47
 go_wp2
 go_ret
 exact ⟨by first | rfl | (simp; done) | (simp only [← hji4, ← hji5] <;> (first | rfl | simp)) | (simp [*]; done) | exact congrArg Value.bool (nonempty_l _) | (refine congrArg (Value.int _) ?_; first | omega | (unfold Go.RowKit.wrap64; omega)), by repeat (first | exact Drawn0.refl _ | apply Drawn0.step)⟩

end Go.Proofs.YtkdbobccchkdjaaDoor.PP
