/-
  sync.Once, sync.Mutex, sync/atomic at this seat's program, one goroutine: contracts, after the kit's worked proof Lazy (lines of it, turned to this program).
-/
import Derived.Test.YtdodghifojkclaaGreatDoorOwnWords
import Derived.Test.YtdodghifojkclaaGreatDoorProg
import Derived.Tactics
import Derived.Tactics2
import Derived.Defers
import Derived.Laws.Pointers
import Derived.Laws.LoneSync
import Derived.RegionTactic
import Derived.RegionCalls
import Derived.ChangeAlike
import Derived.KernelRfl
import Derived.Test.YtdodghifojkclaaGreatDoorPPx0
namespace Go.Proofs.YtdodghifojkclaaGreatDoor.KeyO
open Go.RowKit Go.Proofs.YtdodghifojkclaaGreatDoorW.PrintWords Go.Proofs.YtdodghifojkclaaGreatDoorW.PrintLast Go.Proofs.YtdodghifojkclaaGreatDoorW.PrintMore Go.Proofs.YtdodghifojkclaaGreatDoor.PP
set_option linter.unusedVariables false
set_option linter.unusedSimpArgs false

theorem disable (w : World) : (callFunc 118 #[]).run Tryz.prog w = .ok (.value (.tuple #[])) w := run_call_mark0 Tryz.func118 (by kernel_rfl) (by kernel_rfl) (by kernel_rfl) .disable (by kernel_rfl) w
theorem enable (w : World) : (callFunc 119 #[]).run Tryz.prog w = .ok (.value (.tuple #[])) w := run_call_mark0 Tryz.func119 (by kernel_rfl) (by kernel_rfl) (by kernel_rfl) .enable (by kernel_rfl) w
theorem acquire (a : Addr) (w : World) : (callFunc 120 #[.pointer (some a)]).run Tryz.prog w = .ok (.value (.tuple #[])) w := run_call_marked Tryz.func120 (by kernel_rfl) (by kernel_rfl) (by kernel_rfl) .acquire (by kernel_rfl) a w
theorem releaseMerge (a : Addr) (w : World) : (callFunc 122 #[.pointer (some a)]).run Tryz.prog w = .ok (.value (.tuple #[])) w := run_call_marked Tryz.func122 (by kernel_rfl) (by kernel_rfl) (by kernel_rfl) .releaseMerge (by kernel_rfl) a w
theorem store_deferred (a : Addr) (x : Value) (u : FrameMode) (w : World) (hc : w.cell? a = some x) (hz : w.frozen? a = false) :
    CallsD Tryz.prog 111 #[.pointer (some a), .bool true] u w fun e u' w' => u' = u ∧ (e = .returned (.tuple #[]) ∧ w' = w.drew.setCell a (.int .u32 1)) := by
  have hc' : w.drew.cell? a = some x := by go_simp
  have hz' : w.drew.frozen? a = false := by go_simp
  have hst := run_call_store (P := Tryz.prog) Tryz.func116 (by kernel_rfl) (by kernel_rfl) (by kernel_rfl) (by kernel_rfl) (k := .u32) (y := 1) hc' hz'
  go_enter_d Tryz.func111, Tryz.ntmps111
  go_wp2
  go_region_calls
  all_goals (go_end0; exact ⟨rfl, rfl⟩)
set_option maxRecDepth 100000 in
set_option maxHeartbeats 6400000 in
theorem unlock_deferred (a : Addr) (u : FrameMode) (w : World) (hc : w.cell? a = some (.int .i32 1)) (hz : w.frozen? a = false) :
    CallsD Tryz.prog 110 #[.pointer (some a)] u w fun e u' w' => u' = u ∧ (e = .returned (.tuple #[]) ∧ w' = w.setCell a (.int .i32 0)) := by
  have hd := disable
  have he := enable
  have hr := releaseMerge
  have hadd := run_call_add (P := Tryz.prog) Tryz.func123 (by kernel_rfl) (by kernel_rfl) (by kernel_rfl) .i32 (by kernel_rfl) (y := -1) (s := 0) hc hz (by simp [go_sem]; rfl)
  have hcv := run_convert_to_unsafe (P := Tryz.prog) (src := 158) (dst := 146) Tryz.underlying158 Tryz.underlying146 (by kernel_rfl) hc
  go_enter_d Tryz.func110, Tryz.ntmps110
  go_wp2
  go_end0
  go_wp2
  go_end0
  exact ⟨rfl, rfl⟩
set_option maxRecDepth 100000 in
set_option maxHeartbeats 6400000 in
theorem lock_free (a : Addr) (w : World) (hc : w.cell? a = some (.int .i32 0)) (hz : w.frozen? a = false) :
    Calls Tryz.prog 109 #[.pointer (some a)] w fun e w' => e = .returned (.tuple #[]) ∧ w' = w.setCell a (.int .i32 1) := by
  have hd := disable
  have he := enable
  have ha := acquire
  have hcas := run_call_cas_hit (P := Tryz.prog) Tryz.func79 (by kernel_rfl) (by kernel_rfl) (by kernel_rfl) .i32 (by kernel_rfl) (y := 1) hc hz
  have hc' : (w.setCell a (.int .i32 1)).cell? a = some (.int .i32 1) := World.cell?_setCell_same w a _ hc
  have hcv := run_convert_to_unsafe (P := Tryz.prog) (src := 158) (dst := 146) Tryz.underlying158 Tryz.underlying146 (by kernel_rfl) hc'
  go_enter Tryz.func109, Tryz.ntmps109
  go_wp2
  first | go_end0 | (simp only [Exit.inBlock, Exit.then]; refine bodyPost_ret (results_none rfl _ _ _) rfl ?_) | refine bodyPost_ret (results_none rfl _ _ _) rfl ?_
  go_wp2
  go_end0
  exact ⟨rfl, rfl⟩
set_option maxRecDepth 100000 in
set_option maxHeartbeats 6400000 in
/-- '(*sync.Once).doSlow' of a Once that stands in block b (its 'done' at o, its lock at o + 1), not yet done, the lock free; what the function that is handed on does (a method of what stands at k) is told by R. -/
theorem slow (b o : Nat) (k : Value) (w : World) (R : World → Prop)
    (h0 : w.cell? ⟨b, o, none⟩ = some (.int .u32 0)) (h1 : w.cell? ⟨b, o + 1, none⟩ = some (.int .i32 0)) (f1 : w.frozen? ⟨b, o + 1, none⟩ = false)
    (hf : Calls Tryz.prog 77 #[k] (w.setCell ⟨b, o + 1, none⟩ (.int .i32 1)) fun e W => e = .returned (.tuple #[]) ∧ R W)
    (hR : ∀ W, R W → W.cell? ⟨b, o, none⟩ = some (.int .u32 0) ∧ W.frozen? ⟨b, o, none⟩ = false ∧ W.cell? ⟨b, o + 1, none⟩ = some (.int .i32 1) ∧ W.frozen? ⟨b, o + 1, none⟩ = false) :
    Calls Tryz.prog 100 #[.pointer (some ⟨b, o, none⟩), .func (.func 77) #[k] #[]] w fun e w' => e = .returned (.tuple #[]) ∧
      ∃ W, R W ∧ w' = (W.drew.setCell ⟨b, o, none⟩ (.int .u32 1)).setCell ⟨b, o + 1, none⟩ (.int .i32 0) := by
  have hl := run_call_load (P := Tryz.prog) Tryz.func108 (by kernel_rfl) (by kernel_rfl) (by kernel_rfl) .u32 (by kernel_rfl) (w := w.setCell ⟨b, o + 1, none⟩ (.int .i32 1)) (a := ⟨b, o, none⟩) (x := 0) ((World.cell?_setCell_other _ ⟨b, o + 1, none⟩ ⟨b, o, none⟩ _ (by simp)).trans h0)
  have hnot : ∀ (x : Bool) (w : World), (Op.unary .not (.bool x)).run Tryz.prog w = .ok (.bool (!x)) w := fun _ _ => rfl
  go_enter_defers Tryz.func100, Tryz.ntmps100
  go_wp2_with (first | (go_at_call 109; refine (lock_free ⟨b, o + 1, none⟩ _ (by go_simp) (by go_simp)).mono ?_; rintro e w' ⟨rfl, rfl⟩) | (go_at_call 99; go_in) | (go_at_call 77; refine hf.mono ?_; rintro e W ⟨rfl, hRW⟩))
  obtain ⟨hd0, hz0, hd1, hz1⟩ := hR W hRW
  -- the door: two deferred calls, the last laid first
  refine leaves_cons (f := 111) (args := #[.pointer (some ⟨b, o, none⟩), .bool true]) (by simp) (by simp [go_sem]) ?_
  refine (store_deferred ⟨b, o, none⟩ (.int .u32 0) .returning _ hd0 hz0).mono ?_
  rintro e u' w'' ⟨rfl, rfl, rfl⟩
  refine leaves_cons (f := 110) (args := #[.pointer (some ⟨b, o + 1, none⟩)]) (by simp [settle]) (by simp [go_sem]) ?_
  refine (unlock_deferred ⟨b, o + 1, none⟩ _ _ ?_ (by simp [hz1])).mono ?_
  · refine (World.cell?_setCell_other _ ⟨b, o, none⟩ ⟨b, o + 1, none⟩ _ (by simp)).trans ?_
    rw [World.cell?_drew]
    exact hd1
  rintro e u' w'' ⟨rfl, rfl, rfl⟩
  simp only [Leaves, settle]
  exact ⟨_, results_none Tryz.results100 _ _ _, rfl, W, hRW, rfl⟩
set_option maxRecDepth 100000 in
set_option maxHeartbeats 6400000 in
/-- '(*sync.Once).Do', not yet done, the lock free. -/
theorem do_first (b o : Nat) (k : Value) (w : World) (R : World → Prop)
    (h0 : w.cell? ⟨b, o, none⟩ = some (.int .u32 0)) (h1 : w.cell? ⟨b, o + 1, none⟩ = some (.int .i32 0)) (f1 : w.frozen? ⟨b, o + 1, none⟩ = false)
    (hf : Calls Tryz.prog 77 #[k] (w.setCell ⟨b, o + 1, none⟩ (.int .i32 1)) fun e W => e = .returned (.tuple #[]) ∧ R W)
    (hR : ∀ W, R W → W.cell? ⟨b, o, none⟩ = some (.int .u32 0) ∧ W.frozen? ⟨b, o, none⟩ = false ∧ W.cell? ⟨b, o + 1, none⟩ = some (.int .i32 1) ∧ W.frozen? ⟨b, o + 1, none⟩ = false) :
    Calls Tryz.prog 76 #[.pointer (some ⟨b, o, none⟩), .func (.func 77) #[k] #[]] w fun e w' => e = .returned (.tuple #[]) ∧
      ∃ W, R W ∧ w' = (W.drew.setCell ⟨b, o, none⟩ (.int .u32 1)).setCell ⟨b, o + 1, none⟩ (.int .i32 0) := by
  have hl := run_call_load (P := Tryz.prog) Tryz.func108 (by kernel_rfl) (by kernel_rfl) (by kernel_rfl) .u32 (by kernel_rfl) h0
  have hnot : ∀ (x : Bool) (w : World), (Op.unary .not (.bool x)).run Tryz.prog w = .ok (.bool (!x)) w := fun _ _ => rfl
  go_enter Tryz.func76, Tryz.ntmps76
  go_wp2_with (first | (go_at_call 100; refine (slow b o k _ R h0 h1 f1 hf hR).mono ?_; rintro e w' ⟨rfl, hRW⟩) | (go_at_call 99; go_in))
  go_end0
  exact ⟨rfl, hRW⟩
/-- '(*sync.Once).Do', done already: the function is not called. -/
theorem do_done (a : Addr) (fv : Value) (w : World) (h0 : w.cell? a = some (.int .u32 1)) :
    Calls Tryz.prog 76 #[.pointer (some a), fv] w fun e w' => e = .returned (.tuple #[]) ∧ w' = w := by
  have hl := run_call_load (P := Tryz.prog) Tryz.func108 (by kernel_rfl) (by kernel_rfl) (by kernel_rfl) .u32 (by kernel_rfl) h0
  have hnot : ∀ (x : Bool) (w : World), (Op.unary .not (.bool x)).run Tryz.prog w = .ok (.bool (!x)) w := fun _ _ => rfl
  go_enter Tryz.func76, Tryz.ntmps76
  go_wp2
  go_end0
  exact ⟨rfl, rfl⟩
/-! ### A key in memory, and its methods: New, Used, Left, tree (by sync.Once: its leaves are made once, and stand) -/

/-- A key's block: seed, height, used; the Once's word and its lock; the leaves. -/
structure KB (W : World) (g : Nat) (s : ByteArray) (h u d m : Int) (v : Value) : Prop where
  blk : W.heap[g]? = some (.cells #[.string s, .int .i64 h, .int .i32 u, .int .u32 d, .int .i32 m, .int .u32 0, v] 62 (0, 0))
section
variable {W W1 w0 w : World} {g : Nat} {s : ByteArray} {h u d m : Int} {v : Value}
theorem KB.cells (k : KB W g s h u d m v) : W.cell? ⟨g, 0, none⟩ = some (.string s) ∧ W.cell? ⟨g, 1, none⟩ = some (.int .i64 h) ∧ W.cell? ⟨g, 2, none⟩ = some (.int .i32 u) ∧ W.cell? ⟨g, 3, none⟩ = some (.int .u32 d) ∧ W.cell? ⟨g, 4, none⟩ = some (.int .i32 m) ∧ W.cell? ⟨g, 6, none⟩ = some v :=
  ⟨(blk_cell k.blk 0).trans rfl, (blk_cell k.blk 1).trans rfl, (blk_cell k.blk 2).trans rfl, (blk_cell k.blk 3).trans rfl, (blk_cell k.blk 4).trans rfl, (blk_cell k.blk 6).trans rfl⟩
theorem KB.fz (k : KB W g s h u d m v) (i : Nat) : W.frozen? ⟨g, i, none⟩ = false := blk_frozen k.blk i
theorem KB.lt (k : KB W g s h u d m v) : g < W.heap.size := blk_lt k.blk
theorem KB.below (k : KB W g s h u d m v) (hb : Below W.heap.size W W1) : KB W1 g s h u d m v := ⟨blk_below k.blk hb⟩
theorem KB.below' {b : Nat} (k : KB W g s h u d m v) (hb : Below b W W1) (hg : g < b) : KB W1 g s h u d m v := ⟨(hb.block g hg).trans k.blk⟩
theorem KB.alloc (k : KB W g s h u d m v) (o : Obj) : KB (W.alloc o) g s h u d m v := ⟨blk_alloc k.blk o⟩
theorem KB.drew (k : KB W g s h u d m v) : KB W.drew g s h u d m v := ⟨k.blk⟩
theorem KB.drewN (k : KB W g s h u d m v) (n : Nat) : KB (W.drewN n) g s h u d m v := ⟨k.blk⟩
theorem KB.used (k : KB W g s h u d m v) (x : Int) : KB (W.setCell ⟨g, 2, none⟩ (.int .i32 x)) g s h x d m v := ⟨blk_put k.blk 2 _ rfl⟩
theorem KB.done (k : KB W g s h u d m v) (x : Int) : KB (W.setCell ⟨g, 3, none⟩ (.int .u32 x)) g s h u x m v := ⟨blk_put k.blk 3 _ rfl⟩
theorem KB.lock (k : KB W g s h u d m v) (x : Int) : KB (W.setCell ⟨g, 4, none⟩ (.int .i32 x)) g s h u d x v := ⟨blk_put k.blk 4 _ rfl⟩
theorem KB.leaves (k : KB W g s h u d m v) (x : Value) : KB (W.setCell ⟨g, 6, none⟩ x) g s h u d m x := ⟨blk_put k.blk 6 _ rfl⟩
theorem KB.keep {g' : Nat} (k : KB W g s h u d m v) (hk : KeepBut W W1 g' none) (hne : g ≠ g') : KB W1 g s h u d m v := ⟨hk.blk k.blk hne (by simp)⟩
end
theorem keep_step {w w1 w2 : World} {g : Nat} (h : KeepBut w w1 g none) (hb : Below w.heap.size w1 w2) : KeepBut w w2 g none :=
  ⟨Nat.le_trans h.1 hb.size, fun i hi hg hr => (hb.block i hi).trans (h.2 i hi hg hr)⟩
/-- How many leaves a key of a height has. -/
def two (h : Int) : Nat := 2 ^ h.toNat
theorem two_le {h : Int} (h0 : 0 ≤ h) (h4 : h ≤ 4) : 1 ≤ two h ∧ two h ≤ 16 := by
  have : h.toNat ≤ 4 := by omega
  unfold two
  rcases (by omega : h.toNat = 0 ∨ h.toNat = 1 ∨ h.toNat = 2 ∨ h.toNat = 3 ∨ h.toNat = 4) with e | e | e | e | e <;> rw [e] <;> decide
theorem shl64 (h : Int) (h0 : 0 ≤ h) (h4 : h ≤ 4) : wrap64 (2 ^ h.toNat) = (two h : Int) := by
  rcases (by omega : h = 0 ∨ h = 1 ∨ h = 2 ∨ h = 3 ∨ h = 4) with rfl | rfl | rfl | rfl | rfl <;> kernel_rfl
/-- A state that is a key: its leaves, once they are made, are L's. -/
def IsKey (L : ByteArray → Int → List ByteArray) (w0 W : World) (g : Nat) (s : ByteArray) (h u : Int) : Prop :=
  w0.heap.size ≤ g ∧ 0 ≤ h ∧ h ≤ 4 ∧ (KB W g s h u 0 0 (.slice none 0 0) ∨ ∃ v, KB W g s h u 1 0 v ∧ Kd.R Kd.string 9 W w0.heap.size (fun k => k ≠ g) v (L s h))
section
variable {L : ByteArray → Int → List ByteArray} {w0 W W1 : World} {g : Nat} {s : ByteArray} {h u : Int}
theorem IsKey.ge (k : IsKey L w0 W g s h u) : w0.heap.size ≤ g := k.1
theorem IsKey.lt (k : IsKey L w0 W g s h u) : g < W.heap.size := by
  rcases k.2.2.2 with k | ⟨v, k, _⟩ <;> exact k.lt
theorem IsKey.below (k : IsKey L w0 W g s h u) (hb : Below W.heap.size W W1) : IsKey L w0 W1 g s h u :=
  ⟨k.1, k.2.1, k.2.2.1, k.2.2.2.imp (fun k => k.below hb) (fun ⟨v, k, r⟩ => ⟨v, k.below hb, Kd.R_below r hb⟩)⟩
theorem IsKey.alloc (k : IsKey L w0 W g s h u) (o : Obj) : IsKey L w0 (W.alloc o) g s h u :=
  ⟨k.1, k.2.1, k.2.2.1, k.2.2.2.imp (fun k => k.alloc o) (fun ⟨v, k, r⟩ => ⟨v, k.alloc o, Kd.R_alloc r o⟩)⟩
theorem IsKey.drew (k : IsKey L w0 W g s h u) : IsKey L w0 W.drew g s h u :=
  ⟨k.1, k.2.1, k.2.2.1, k.2.2.2.imp (fun k => k.drew) (fun ⟨v, k, r⟩ => ⟨v, k.drew, Kd.R_drew r⟩)⟩
theorem IsKey.drewN (k : IsKey L w0 W g s h u) (n : Nat) : IsKey L w0 (W.drewN n) g s h u :=
  ⟨k.1, k.2.1, k.2.2.1, k.2.2.2.imp (fun k => k.drewN n) (fun ⟨v, k, r⟩ => ⟨v, k.drewN n, Kd.R_drewN r n⟩)⟩
/-- What turns another key's block alone leaves this one as it is. -/
theorem IsKey.keep {g' : Nat} {s' : ByteArray} {h' u' : Int} (k : IsKey L w0 W g s h u) (k' : IsKey L w0 W g' s' h' u') (hk : KeepBut W W1 g' none) (hne : g ≠ g') : IsKey L w0 W1 g s h u := by
  have hb : ∃ d v, KB W g' s' h' u' d 0 v := by
    rcases k'.2.2.2 with k | ⟨v, k, _⟩
    · exact ⟨_, _, k⟩
    · exact ⟨_, _, k⟩
  obtain ⟨d, v', hb⟩ := hb
  exact ⟨k.1, k.2.1, k.2.2.1, k.2.2.2.imp (fun k => k.keep hk hne) (fun ⟨v, k, r⟩ => ⟨v, k.keep hk hne, Kd.R_mono (Kd.R_keep (Kd.R_types r hb.blk (by decide)) hk (fun _ hk => hk.2)) (fun _ hk => hk.1)⟩)⟩
end
/-- A key's leaves, as they are made. -/
def lvs (pub : Nat → ByteArray) (n : Nat) : List ByteArray := (List.range n).map pub
theorem lvs_len (pub : Nat → ByteArray) (n : Nat) : (lvs pub n).length = n := by unfold lvs; rw [List.length_map, List.length_range]
theorem lvs_succ (pub : Nat → ByteArray) (n : Nat) : lvs pub (n + 1) = lvs pub n ++ [pub n] := by unfold lvs; rw [List.range_succ, List.map_append]; rfl
set_option maxRecDepth 100000 in
set_option maxHeartbeats 6400000 in
theorem plant (pub : Nat → ByteArray) (g : Nat) (s : ByteArray) (h u d m : Int) (w0 w : World) (hg : w0.heap.size ≤ g) (hB : Below w0.heap.size w0 w) (hK : KB w g s h u d m (.slice none 0 0)) (h0 : 0 ≤ h) (h4 : h ≤ 4)
    (hP : ∀ (i : Nat) (W : World), i < 16 → Below w0.heap.size w0 W → Calls Tryz.prog 101 #[.string s, .int .i64 (i : Int)] W fun e W' => ∃ b, e = .returned (.tuple #[.string (pub i), .bool b]) ∧ Below W.heap.size W W') :
    Calls Tryz.prog 77 #[.pointer (some ⟨g, 0, none⟩)] w fun e w' => e = .returned (.tuple #[]) ∧ ∃ v, KB w' g s h u d m v ∧ Kd.R Kd.string 9 w' w.heap.size (fun k => k ≠ g) v (lvs pub (two h)) ∧ KeepBut w w' g none ∧ Below w0.heap.size w0 w' := by
  have h2 := two_le h0 h4
  have hsh := shl64 h h0 h4
  have hgw := hK.lt
  have HG := Aside0.mk hg
  have HGW := Aside0.mk hgw
  have HP := Aside0.mk hP
  have HW := Aside0.mk hB.size
  have HB0 := Aside0.mk hB
  have HK0 := Aside0.mk hK
  have H2 := Aside0.mk h2
  obtain ⟨c0, c1, c2, c3, c4, c6⟩ := hK.cells
  clear hP hB hg hgw hK h2
  go_enter Tryz.func77, Tryz.ntmps77
  go_wp2
  simp only [hsh]
  go_loopg [10] (two h) (fun kq v10 w' => ∃ (i : Nat) (v : Value), v10 = .int .i64 (i : Int) ∧ Aside0 (i + kq = two h) ∧ Aside0 (KB w' g s h u d m v) ∧ Aside0 (Kd.R Kd.string 9 w' w.heap.size (fun k => k ≠ g) v (lvs pub i)) ∧ Aside0 (KeepBut w w' g none) ∧ Aside0 (Below w0.heap.size w0 w'))
  case atStart => exact ⟨0, .slice none 0 0, rfl, ⟨by omega⟩, HK0, ⟨Kd.R_nil _ _ _ _ _⟩, ⟨KeepBut.refl _ _ _⟩, HB0⟩
  case round =>
    clear c0 c1 c2 c3 c4 c6
    obtain ⟨i, v, rfl, HI, HK, HR, HKB, HB⟩ := hrel
    have h2 := H2.out
    have hi := HI.out
    cases gk with
    | zero =>
      have ei : i = two h := by omega
      subst ei
      have cc : decide ((two h : Int) < (two h : Int)) = false := decide_eq_false (by omega)
      go_wp2
      go_end0
      exact ⟨rfl, v, HK.out, HR.out, HKB.out, HB.out⟩
    | succ k1 =>
      have cc : (i < two h) = True := eq_true (by omega)
      have hw1 : IntKind.i64.wrap ((i : Int) + 1) = ((i + 1 : Nat) : Int) := by rw [IntKind.wrap_i64]; omega
      obtain ⟨c0, c1, c2, c3, c4, c6⟩ := HK.out.cells
      have HI16 := Aside0.mk (show i < 16 by omega)
      clear hi h2
      go_wp2_with (first
        | (go_at_call 101; refine (HP.out i _ HI16.out HB.out).mono ?_; rintro e w1 ⟨b, rfl, hb⟩; clear c0 c1 c2 c3 c4 c6; have HK1 := Aside0.mk (HK.out.below hb); have HR1 := Aside0.mk (Kd.R_below HR.out hb); have HKB1 := Aside0.mk (HKB.out.trans (KeepBut.of_below hb g none) (.inl rfl)); have HB1 := Aside0.mk (below_step HB.out hb); clear HK HR HKB HB hb; obtain ⟨c0, c1, c2, c3, c4, c6⟩ := HK1.out.cells)
        | ((with_reducible refine gate_builtin (b := .append) (xs := #[.tmp 26, .tmp 28]) rfl ?_); at_builtin; refine Kd.R_append Kd.string (w0 := w1) w.heap.size rfl (.tmp 26) (.tmp 28) 22 9 (.string ⟨#[]⟩) 16 rfl Tryz.underlying22 info9 rfl (by decide) (by omega) v (lvs pub i) (pub i) [.string (pub i)] (fun k => k ≠ g) (fun _ => False) rfl rfl ?aP (fun _ hk => hk.elim) ?aF HR1.out (Below.refl _ _) HKB1.out.1 ?aL ?_; (case aP => exact rfl); (case aF => exact (fun k hk => by have := HK1.out.lt; omega)); (case aL => have := HI16.out; rw [lvs_len]; omega); intro v2 w2 ho hb hg hat; obtain ⟨A2, cp2, e2⟩ := Kd.R_slice ho; subst e2; clear c0 c1 c2 c3 c4 c6; have HK2 := Aside0.mk (HK1.out.below' hb HGW.out); have HR2 := Aside0.mk ho; have HKB2 := Aside0.mk (keep_step HKB1.out hb); have HB2 := Aside0.mk (HB1.out.trans (hb.mono (by have := HG.out; have := HW.out; omega))); clear HR1 hg hat hb ho; obtain ⟨c0, c1, c2, c3, c4, c6⟩ := HK2.out.cells; have f6 := HK2.out.fz 6))
      go_roundg k1
      case measure => omega
      case rel => exact ⟨i + 1, _, by first | rfl | (rw [hw1]) | (refine congrArg (Value.int _) ?_; omega), ⟨by have := HI.out; omega⟩, ⟨HK2.out.leaves _⟩, ⟨by rw [lvs_succ]; have r_ := Kd.R_far (p := ⟨g, 6, none⟩) HR2.out (fun _ hk => hk) (.slice A2 ((lvs pub i).length + 1) cp2); rw [List.length_append] at r_; exact r_⟩, ⟨HKB2.out.set_ _ _⟩, ⟨HB2.out.setCell HG.out _⟩⟩
section
variable (pub : ByteArray → Nat → ByteArray)
/-- The leaves of a seed and a height. -/
def lv (s : ByteArray) (h : Int) : List ByteArray := lvs (pub s) (two h)
/-- What wots.Public answers at a seed, at any leaf that may be. -/
def PubAt (s : ByteArray) (w0 : World) : Prop :=
  ∀ (i : Nat) (W : World), i < 16 → Below w0.heap.size w0 W → Calls Tryz.prog 101 #[.string s, .int .i64 (i : Int)] W fun e W' => ∃ b, e = .returned (.tuple #[.string (pub s i), .bool b]) ∧ Below W.heap.size W W'
set_option maxRecDepth 100000 in
set_option maxHeartbeats 6400000 in
theorem tree (g : Nat) (s : ByteArray) (h u : Int) (w0 w : World) (hI : IsKey (lv pub) w0 w g s h u) (hB : Below w0.heap.size w0 w) (hP : PubAt pub s w0) :
    Calls Tryz.prog 48 #[.pointer (some ⟨g, 0, none⟩)] w fun e w' => ∃ A c, e = .returned (.slice A (lv pub s h).length c) ∧ Kd.C Kd.string w' A (lv pub s h).length (lv pub s h) ∧ (lv pub s h).length ≤ c ∧ IsKey (lv pub) w0 w' g s h u ∧ Below w0.heap.size w0 w' ∧ KeepBut w w' g none := by
  have hmf : ∀ (fn : Fn) (first cap : Array Value) (w : World), (Instr.makeFunc fn first cap).run Tryz.prog w = .ok (.func fn first cap) w := fun _ _ _ _ => rfl
  obtain ⟨hg, h0, h4, hk⟩ := hI
  rcases hk with hk | ⟨v, hk, hr⟩
  · obtain ⟨c0, c1, c2, c3, c4, c6⟩ := hk.cells
    have f4 := hk.fz 4
    have k1 := hk.lock 1
    have b1 : Below w0.heap.size w0 (w.setCell ⟨g, 4, none⟩ (.int .i32 1)) := hB.setCell hg _
    have hpl := plant (pub s) g s h u 0 1 w0 _ hg b1 k1 h0 h4 hP
    have HG := Aside0.mk hg
    have HK := Aside0.mk hk
    have H0 := Aside0.mk (And.intro h0 h4)
    clear hB hP b1 k1 hg h0 h4
    go_enter Tryz.func48, Tryz.ntmps48
    go_wp2_with (go_at_call 76; refine (do_first g 3 _ _ (fun W => ∃ v, KB W g s h u 0 1 v ∧ Kd.R Kd.string 9 W (w.setCell ⟨g, 4, none⟩ (.int .i32 1)).heap.size (fun k => k ≠ g) v (lvs (pub s) (two h)) ∧ KeepBut (w.setCell ⟨g, 4, none⟩ (.int .i32 1)) W g none ∧ Below w0.heap.size w0 W) c3 c4 f4 hpl ?_).mono ?_; (rintro W ⟨v, k, _⟩; obtain ⟨c0, c1, c2, c3, c4, c6⟩ := k.cells; exact ⟨c3, k.fz 3, c4, k.fz 4⟩); rintro e w' ⟨rfl, W, ⟨v, hk2, hr2, hkb, hb2⟩, hw⟩; obtain ⟨A2, cp2, e2⟩ := Kd.R_slice hr2; subst e2; clear c0 c1 c2 c3 c4 c6 f4; have HK3 := Aside0.mk (show KB w' g s h u 1 0 _ by rw [hw]; exact ((hk2.drew.done 1).lock 0)); have HR3 := Aside0.mk (show Kd.R Kd.string 9 w' (w.setCell ⟨g, 4, none⟩ (.int .i32 1)).heap.size (fun k => k ≠ g) _ (lvs (pub s) (two h)) by rw [hw]; exact Kd.R_far (p := ⟨g, 4, none⟩) (Kd.R_far (p := ⟨g, 3, none⟩) (Kd.R_drew hr2) (fun _ hk => hk) (.int .u32 1)) (fun _ hk => hk) (.int .i32 0)); have HB3 := Aside0.mk (show Below w0.heap.size w0 w' by rw [hw]; exact (hb2.drew.setCell HG.out _).setCell HG.out _); have HKB3 := Aside0.mk (show KeepBut w w' g none by rw [hw]; exact (((((KeepBut.refl w g none).set_ 4 (.int .i32 1)).trans hkb (.inl rfl)).set_ 3 (.int .u32 1)).set_ 4 (.int .i32 0))); clear hw hk2 hr2 hkb hb2 W; obtain ⟨c0, c1, c2, c3, c4, c6⟩ := HK3.out.cells)
    go_ret
    have hr4 := Kd.R_lower HR3.out (Nat.le_trans (Nat.le_of_lt (Nat.lt_of_le_of_lt HG.out HK.out.lt)) (by simp [World.setCell] : w.heap.size ≤ (w.setCell ⟨g, 4, none⟩ (.int .i32 1)).heap.size))
    have hrd := Kd.R_reads' hr4
    exact ⟨A2, cp2, rfl, hrd.2.2, hrd.2.1, ⟨HG.out, H0.out.1, H0.out.2, .inr ⟨_, HK3.out, hr4⟩⟩, HB3.out, HKB3.out⟩
  · obtain ⟨c0, c1, c2, c3, c4, c6⟩ := hk.cells
    have HI := Aside0.mk (show IsKey (lv pub) w0 w g s h u from ⟨hg, h0, h4, .inr ⟨v, hk, hr⟩⟩)
    have HB := Aside0.mk hB
    obtain ⟨A2, cp2, e2⟩ := Kd.R_slice hr
    subst e2
    have HR := Aside0.mk (Kd.R_reads' hr)
    clear hB hP hg h0 h4 hk hr
    go_enter Tryz.func48, Tryz.ntmps48
    go_wp2_with (go_at_call 76; refine (do_done ⟨g, 3, none⟩ _ _ c3).mono ?_; rintro e w' ⟨rfl, rfl⟩)
    go_ret
    exact ⟨A2, cp2, rfl, HR.out.2.2, HR.out.2.1, HI.out, HB.out, KeepBut.refl _ _ _⟩
end
section
variable (L : ByteArray → Int → List ByteArray)
theorem i32_small (u : Int) (h0 : 0 ≤ u) (h1 : u ≤ 100) : IntKind.i32.wrap u = u := by
  rw [IntKind.wrap_i32]; omega
set_option maxRecDepth 100000 in
set_option maxHeartbeats 6400000 in
theorem new_ok (s : ByteArray) (h u : Int) (w0 w : World) (hB : Below w0.heap.size w0 w) (h0 : 0 ≤ h) (h4 : h ≤ 4) (u0 : 0 ≤ u) (u1 : u ≤ two h) :
    Calls Tryz.prog 7 #[.string s, .int .i64 h, .int .i64 u] w fun e w' => ∃ g, e = .returned (.pointer (some ⟨g, 0, none⟩)) ∧ IsKey L w0 w' g s h u ∧ Below w0.heap.size w0 w' ∧ Below w.heap.size w w' ∧ w.heap.size ≤ g := by
  have h2 := two_le h0 h4
  have hsh := shl64 h h0 h4
  have hu := i32_small u u0 (by omega)
  have p1 : (h < 0) = False := eq_false (by omega)
  have p2 : (4 < h) = False := eq_false (by omega)
  have p3 : (u < 0) = False := eq_false (by omega)
  have p4 : ((two h : Int) < u) = False := eq_false (by omega)
  have p5 : (0 ≤ h) = True := eq_true h0
  have p6 : (h ≤ 4) = True := eq_true h4
  obtain ⟨W0, hW0⟩ : ∃ W0, w.alloc (.cells #[.string s, .int .i64 h, .int .i32 0, .int .u32 0, .int .i32 0, .int .u32 0, .slice none 0 0] 62) = W0 := ⟨_, rfl⟩
  have kb : KB W0 w.heap.size s h 0 0 0 (.slice none 0 0) := by rw [← hW0]; exact ⟨by simpa using heap_alloc_new w _⟩
  have hst := run_call_store (P := Tryz.prog) Tryz.func46 (by kernel_rfl) (by kernel_rfl) (by kernel_rfl) (by kernel_rfl) (k := .i32) (y := u) kb.cells.2.2.1 (kb.fz 2)
  go_enter Tryz.func7, Tryz.ntmps7
  go_wp2
  go_end0
  go_wp2
  go_ret
  have hbw := (Below.refl w.heap.size w).alloc (Nat.le_refl _) (.cells #[.string s, .int .i64 h, .int .i32 0, .int .u32 0, .int .i32 0, .int .u32 0, .slice none 0 0] 62)
  rw [hW0] at hbw
  have hb1 := hbw.setCell (p := ⟨w.heap.size, 2, none⟩) (Nat.le_refl _) (.int .i32 u)
  exact ⟨w.heap.size, rfl, ⟨hB.size, h0, h4, .inl (kb.used u)⟩, hB.trans (hb1.mono hB.size), hb1, Nat.le_refl _⟩
set_option maxRecDepth 100000 in
theorem used (g : Nat) (s : ByteArray) (h u : Int) (w0 w : World) (hI : IsKey L w0 w g s h u) (u0 : 0 ≤ u) (u1 : u ≤ 100) :
    Calls Tryz.prog 17 #[.pointer (some ⟨g, 0, none⟩)] w fun e w' => e = .returned (.int .i64 u) ∧ w' = w := by
  obtain ⟨d, v, hk⟩ : ∃ d v, KB w g s h u d 0 v := by
    rcases hI.2.2.2 with k | ⟨v, k, _⟩
    · exact ⟨_, _, k⟩
    · exact ⟨_, _, k⟩
  have hl := run_call_load (P := Tryz.prog) Tryz.func65 (by kernel_rfl) (by kernel_rfl) (by kernel_rfl) .i32 (by kernel_rfl) hk.cells.2.2.1
  have hwu : wrap64 u = u := by unfold wrap64; omega
  go_enter Tryz.func17, Tryz.ntmps17
  go_wp2
  go_ret
  exact ⟨rfl, rfl⟩
end
end Go.Proofs.YtdodghifojkclaaGreatDoor.KeyO
