-- WRITTEN BY a program of this work (wip/ownprint.py), for this seat
import Derived.Test.YtnfbagkeenjifaaDoorPPx0
import Derived.Test.YtnfbagkeenjifaaDoorPPx1
namespace Go.Proofs.YtnfbagkeenjifaaDoor.PP
open Go.RowKit Go.Proofs.YtnfbagkeenjifaaDoorW.PrintWords Go.Proofs.YtnfbagkeenjifaaDoorW.PrintLast Go.Proofs.YtnfbagkeenjifaaDoorW.PrintMore
attribute [local go_sem] max2_int min2_int max_two min_two max_three min_three max_four min_four   -- for this text's walks alone
set_option linter.unusedVariables false
set_option linter.unusedSimpArgs false

/-! ### palaverref02_Sum: function 63 -/
mutual
def palaverref02_Sum.l0 : Nat → List Int → List Int → ByteArray → Int → Option (ByteArray)
 | 0, _, _, _, _ => none
 | k + 1, x3, x4, x5, x6 => if x6 < (x5.size : Int) then (palaverref02_Sum.l1 k x3 x4 x5 x6 (List.replicate 64 0) 0) else (palaverref02_Sum.l4 k x3 ([] : List Int) 0)
def palaverref02_Sum.l1 : Nat → List Int → List Int → ByteArray → Int → List Int → Int → Option (ByteArray)
 | 0, _, _, _, _, _, _ => none
 | k + 1, x3, x4, x5, x6, x7, x8 => if x8 < 64 then (if x8 < 16 then (if 0 ≤ (wrap64 (x6 + (wrap64 (4 * x8)))) then (if (wrap64 (x6 + (wrap64 (4 * x8)))) < (x5.size : Int) then (if 0 ≤ (wrap64 ((wrap64 (x6 + (wrap64 (4 * x8)))) + 1)) then (if (wrap64 ((wrap64 (x6 + (wrap64 (4 * x8)))) + 1)) < (x5.size : Int) then (if 0 ≤ (wrap64 ((wrap64 (x6 + (wrap64 (4 * x8)))) + 2)) then (if (wrap64 ((wrap64 (x6 + (wrap64 (4 * x8)))) + 2)) < (x5.size : Int) then (if 0 ≤ (wrap64 ((wrap64 (x6 + (wrap64 (4 * x8)))) + 3)) then (if (wrap64 ((wrap64 (x6 + (wrap64 (4 * x8)))) + 3)) < (x5.size : Int) then (if x7.length = 64 then (if 0 ≤ x8 then (if x8 < (x7.length : Int) then (palaverref02_Sum.l1 k x3 x4 x5 x6 (x7.set (x8 : Int).toNat (((((((bt x5 (wrap64 (x6 + (wrap64 (4 * x8))))) % 4294967296) * 16777216) + (((bt x5 (wrap64 ((wrap64 (x6 + (wrap64 (4 * x8)))) + 1))) % 4294967296) * 65536)) + (((bt x5 (wrap64 ((wrap64 (x6 + (wrap64 (4 * x8)))) + 2))) % 4294967296) * 256)) + (bt x5 (wrap64 ((wrap64 (x6 + (wrap64 (4 * x8)))) + 3)))) % 4294967296)) (wrap64 (x8 + 1))) else (none)) else (none)) else (none)) else (none)) else (none)) else (none)) else (none)) else (none)) else (none)) else (none)) else (none)) else (if x7.length = 64 then (if 0 ≤ (wrap64 (x8 - 15)) then (if (wrap64 (x8 - 15)) < (x7.length : Int) then ((palaverref02_turn.f (rd x7 (wrap64 (x8 - 15))) 7).bind fun t229 => ((palaverref02_turn.f (rd x7 (wrap64 (x8 - 15))) 18).bind fun t231 => (if 0 ≤ (wrap64 (x8 - 2)) then (if (wrap64 (x8 - 2)) < (x7.length : Int) then ((palaverref02_turn.f (rd x7 (wrap64 (x8 - 2))) 17).bind fun t234 => ((palaverref02_turn.f (rd x7 (wrap64 (x8 - 2))) 19).bind fun t236 => (if 0 ≤ (wrap64 (x8 - 16)) then (if (wrap64 (x8 - 16)) < (x7.length : Int) then (if 0 ≤ (wrap64 (x8 - 7)) then (if (wrap64 (x8 - 7)) < (x7.length : Int) then (if 0 ≤ x8 then (if x8 < (x7.length : Int) then (palaverref02_Sum.l1 k x3 x4 x5 x6 (x7.set (x8 : Int).toNat (((((rd x7 (wrap64 (x8 - 16))) + (Go.bits .xor .u32 (Go.bits .xor .u32 t229 t231) ((rd x7 (wrap64 (x8 - 15))) / 8))) + (rd x7 (wrap64 (x8 - 7)))) + (Go.bits .xor .u32 (Go.bits .xor .u32 t234 t236) ((rd x7 (wrap64 (x8 - 2))) / 1024))) % 4294967296)) (wrap64 (x8 + 1))) else (none)) else (none)) else (none)) else (none)) else (none)) else (none)))) else (none)) else (none)))) else (none)) else (none)) else (none))) else (if x3.length = 8 then (if 0 < (x3.length : Int) then (if 1 < (x3.length : Int) then (if 2 < (x3.length : Int) then (if 3 < (x3.length : Int) then (if 4 < (x3.length : Int) then (if 5 < (x3.length : Int) then (if 6 < (x3.length : Int) then (if 7 < (x3.length : Int) then (palaverref02_Sum.l2 k x3 x4 x5 x6 x7 (rd x3 0) (rd x3 1) (rd x3 2) (rd x3 3) (rd x3 4) (rd x3 5) (rd x3 6) (rd x3 7) 0) else (none)) else (none)) else (none)) else (none)) else (none)) else (none)) else (none)) else (none)) else (none))
def palaverref02_Sum.l2 : Nat → List Int → List Int → ByteArray → Int → List Int → Int → Int → Int → Int → Int → Int → Int → Int → Int → Option (ByteArray)
 | 0, _, _, _, _, _, _, _, _, _, _, _, _, _, _ => none
 | k + 1, x3, x4, x5, x6, x7, x11, x12, x13, x14, x15, x16, x17, x18, x19 => if x19 < 64 then ((palaverref02_turn.f x15 6).bind fun t249 => ((palaverref02_turn.f x15 11).bind fun t250 => ((palaverref02_turn.f x15 25).bind fun t251 => (if x4.length = 64 then (if 0 ≤ x19 then (if x19 < (x4.length : Int) then (if x7.length = 64 then (if x19 < (x7.length : Int) then ((palaverref02_turn.f x11 2).bind fun t254 => ((palaverref02_turn.f x11 13).bind fun t255 => ((palaverref02_turn.f x11 22).bind fun t256 => (palaverref02_Sum.l2 k x3 x4 x5 x6 x7 ((((((x18 + (Go.bits .xor .u32 (Go.bits .xor .u32 t249 t250) t251)) + (Go.bits .xor .u32 (Go.bits .and .u32 x15 x16) (Go.bits .and .u32 (Go.bits .xor .u32 4294967295 x15) x17))) + (rd x4 x19)) + (rd x7 x19)) + ((Go.bits .xor .u32 (Go.bits .xor .u32 t254 t255) t256) + (Go.bits .xor .u32 (Go.bits .xor .u32 (Go.bits .and .u32 x11 x12) (Go.bits .and .u32 x11 x13)) (Go.bits .and .u32 x12 x13)))) % 4294967296) x11 x12 x13 ((x14 + ((((x18 + (Go.bits .xor .u32 (Go.bits .xor .u32 t249 t250) t251)) + (Go.bits .xor .u32 (Go.bits .and .u32 x15 x16) (Go.bits .and .u32 (Go.bits .xor .u32 4294967295 x15) x17))) + (rd x4 x19)) + (rd x7 x19))) % 4294967296) x15 x16 x17 (wrap64 (x19 + 1)))))) else (none)) else (none)) else (none)) else (none)) else (none))))) else ((some (List.replicate 8 0 : List Int)).bind fun y257 => (if y257.length = 8 then (if 0 < (y257.length : Int) then (palaverref02_Sum.l3 k x3 x4 x5 x6 ([x11, x12, x13, x14, x15, x16, x17, x18]) 0) else (none)) else (none)))
def palaverref02_Sum.l3 : Nat → List Int → List Int → ByteArray → Int → List Int → Int → Option (ByteArray)
 | 0, _, _, _, _, _, _ => none
 | k + 1, x3, x4, x5, x6, x26, x27 => if x27 < 8 then (if x3.length = 8 then (if 0 ≤ x27 then (if x27 < (x3.length : Int) then (if x26.length = 8 then (if x27 < (x26.length : Int) then (palaverref02_Sum.l3 k (x3.set (x27 : Int).toNat (((rd x3 x27) + (rd x26 x27)) % 4294967296)) x4 x5 x6 x26 (wrap64 (x27 + 1))) else (none)) else (none)) else (none)) else (none)) else (none)) else (palaverref02_Sum.l0 k x3 x4 x5 (wrap64 (x6 + 64)))
def palaverref02_Sum.l4 : Nat → List Int → List Int → Int → Option (ByteArray)
 | 0, _, _, _ => none
 | k + 1, x3, x28, x29 => if x29 < 8 then (if x3.length = 8 then (if 0 ≤ x29 then (if x29 < (x3.length : Int) then ((some (([((rd x3 x29) / 16777216) % 256, ((rd x3 x29) / 65536) % 256, ((rd x3 x29) / 256) % 256, (rd x3 x29) % 256] : List Int) : List Int)).bind fun y268 => (if x28.length + y268.length < 140737488355328 then (palaverref02_Sum.l4 k x3 (x28 ++ y268) (wrap64 (x29 + 1))) else (none))) else (none)) else (none)) else (none)) else (some (strOfNums x28))
end
def palaverref02_Sum.f (k : Nat) (a0 : ByteArray) : Option (ByteArray) := (palaverref02_Starts.f).bind fun _ => ((some (List.replicate 8 0 : List Int)).bind fun y215 => (if y215.length = 8 then (if 0 < (y215.length : Int) then ((palaverref02_table.f).bind fun _ => ((some (List.replicate 64 0 : List Int)).bind fun y219 => (if y219.length = 64 then (if 0 < (y219.length : Int) then ((palaverref02_Padded.f k a0).bind fun t223 => (palaverref02_Sum.l0 k ([1779033703, 3144134277, 1013904242, 2773480762, 1359893119, 2600822924, 528734635, 1541459225]) ([1116352408, 1899447441, 3049323471, 3921009573, 961987163, 1508970993, 2453635748, 2870763221, 3624381080, 310598401, 607225278, 1426881987, 1925078388, 2162078206, 2614888103, 3248222580, 3835390401, 4022224774, 264347078, 604807628, 770255983, 1249150122, 1555081692, 1996064986, 2554220882, 2821834349, 2952996808, 3210313671, 3336571891, 3584528711, 113926993, 338241895, 666307205, 773529912, 1294757372, 1396182291, 1695183700, 1986661051, 2177026350, 2456956037, 2730485921, 2820302411, 3259730800, 3345764771, 3516065817, 3600352804, 4094571909, 275423344, 430227734, 506948616, 659060556, 883997877, 958139571, 1322822218, 1537002063, 1747873779, 1955562222, 2024104815, 2227730452, 2361852424, 2428436474, 2756734187, 3204031479, 3329325298]) t223 0)) else (none)) else (none)))) else (none)) else (none)))
theorem palaverref02_Sum.mono_l : ∀ k, (∀ y0 y1 y2 y3, LeO (palaverref02_Sum.l0 k y0 y1 y2 y3) (palaverref02_Sum.l0 (k + 1) y0 y1 y2 y3)) ∧ (∀ y0 y1 y2 y3 y4 y5, LeO (palaverref02_Sum.l1 k y0 y1 y2 y3 y4 y5) (palaverref02_Sum.l1 (k + 1) y0 y1 y2 y3 y4 y5)) ∧ (∀ y0 y1 y2 y3 y4 y5 y6 y7 y8 y9 y10 y11 y12 y13, LeO (palaverref02_Sum.l2 k y0 y1 y2 y3 y4 y5 y6 y7 y8 y9 y10 y11 y12 y13) (palaverref02_Sum.l2 (k + 1) y0 y1 y2 y3 y4 y5 y6 y7 y8 y9 y10 y11 y12 y13)) ∧ (∀ y0 y1 y2 y3 y4 y5, LeO (palaverref02_Sum.l3 k y0 y1 y2 y3 y4 y5) (palaverref02_Sum.l3 (k + 1) y0 y1 y2 y3 y4 y5)) ∧ (∀ y0 y1 y2, LeO (palaverref02_Sum.l4 k y0 y1 y2) (palaverref02_Sum.l4 (k + 1) y0 y1 y2))
 | 0 => ⟨fun _ _ _ _ r h => by simp [palaverref02_Sum.l0] at h, fun _ _ _ _ _ _ r h => by simp [palaverref02_Sum.l1] at h, fun _ _ _ _ _ _ _ _ _ _ _ _ _ _ r h => by simp [palaverref02_Sum.l2] at h, fun _ _ _ _ _ _ r h => by simp [palaverref02_Sum.l3] at h, fun _ _ _ r h => by simp [palaverref02_Sum.l4] at h⟩
 | k + 1 => by
  obtain ⟨ih0, ih1, ih2, ih3, ih4⟩ := palaverref02_Sum.mono_l k
  refine ⟨?_, ?_, ?_, ?_, ?_⟩ <;> intros <;> (first | unfold palaverref02_Sum.l0 | unfold palaverref02_Sum.l1 | unfold palaverref02_Sum.l2 | unfold palaverref02_Sum.l3 | unfold palaverref02_Sum.l4) <;> repeat' first
  | (with_reducible exact ih0 _ _ _ _)
  | (with_reducible exact ih1 _ _ _ _ _ _)
  | (with_reducible exact ih2 _ _ _ _ _ _ _ _ _ _ _ _ _ _)
  | (with_reducible exact ih3 _ _ _ _ _ _)
  | (with_reducible exact ih4 _ _ _)
  | (with_reducible exact palaverref02_Padded.mono _ _)
  | (with_reducible exact LeO.refl _)
  | (with_reducible exact LeO.none _)
  | (with_reducible refine LeO.ite ?_ ?_)
  | (with_reducible refine LeO.bind ?_ (fun _ => ?_))
  | exact ih0 _ _ _ _
  | exact ih1 _ _ _ _ _ _
  | exact ih2 _ _ _ _ _ _ _ _ _ _ _ _ _ _
  | exact ih3 _ _ _ _ _ _
  | exact ih4 _ _ _
  | exact palaverref02_Padded.mono _ _
  | exact LeO.none _
  | refine LeO.ite ?_ ?_
  | refine LeO.bind ?_ (fun _ => ?_)
theorem palaverref02_Sum.mono : ∀ a0 k, LeO (palaverref02_Sum.f k a0) (palaverref02_Sum.f (k + 1) a0) := by
 intro a0 k
 obtain ⟨ih0, ih1, ih2, ih3, ih4⟩ := palaverref02_Sum.mono_l k
 unfold palaverref02_Sum.f
 repeat' first
  | (with_reducible exact ih0 _ _ _ _)
  | (with_reducible exact ih1 _ _ _ _ _ _)
  | (with_reducible exact ih2 _ _ _ _ _ _ _ _ _ _ _ _ _ _)
  | (with_reducible exact ih3 _ _ _ _ _ _)
  | (with_reducible exact ih4 _ _ _)
  | (with_reducible exact palaverref02_Padded.mono _ _)
  | (with_reducible exact LeO.refl _)
  | (with_reducible exact LeO.none _)
  | (with_reducible refine LeO.ite ?_ ?_)
  | (with_reducible refine LeO.bind ?_ (fun _ => ?_))
  | exact ih0 _ _ _ _
  | exact ih1 _ _ _ _ _ _
  | exact ih2 _ _ _ _ _ _ _ _ _ _ _ _ _ _
  | exact ih3 _ _ _ _ _ _
  | exact ih4 _ _ _
  | exact palaverref02_Padded.mono _ _
  | exact LeO.none _
  | refine LeO.ite ?_ ?_
  | refine LeO.bind ?_ (fun _ => ?_)
def palaverref02_Sum.T12 : Bool × List (List Nat × List Nat) := (true, [([], []), ([], []), ([], []), ([], []), ([3], [3]), ([2, 4], [2, 4]), ([1, 5], [1, 5]), ([6], [6]), ([7], [7]), ([], []), ([], []), ([], []), ([11], [11]), ([10, 12], [10, 12]), ([13], [13]), ([9, 14], [9, 14]), ([15], [15]), ([16], [16]), ([8, 17], [8, 17]), ([], []), ([], []), ([], []), ([21], [21]), ([20, 22], [20, 22]), ([23], [23]), ([19, 24], [19, 24]), ([25], [25]), ([26], [26]), ([18, 27], [18, 27]), ([], []), ([], []), ([], []), ([31], [31]), ([30, 32], [30, 32]), ([33], [33]), ([29, 34], [29, 34]), ([35], [35]), ([28, 36], [28, 36]), ([0, 0, 1, 2, 3, 4, 5, 6, 7, 8, 9, 10, 11, 12, 13, 14, 15, 16, 17, 18, 19, 20, 21, 22, 23, 24, 25, 26, 27, 28, 29, 30, 31, 32, 33, 34, 35, 36, 37], [0]), ([38, 37, 0, 1, 2, 3, 4, 5, 6, 7, 8, 9, 10, 11, 12, 13, 14, 15, 16, 17, 18, 19, 20, 21, 22, 23, 24, 25, 26, 27, 28, 29, 30, 31, 32, 33, 34, 35, 36, 37], [37, 38])])
def palaverref02_Sum.B12 : List Nat := [0, 0, 0, 0, 8, 28, 62, 126, 254, 0, 0, 0, 2048, 7168, 15360, 32256, 65024, 130560, 262142, 0, 0, 0, 2097152, 7340032, 15728640, 33030144, 66584576, 133693440, 268435454, 0, 0, 0, 2147483648, 7516192768, 16106127360, 33822867456, 68182605824, 137438953470, 274877906943, 549755813887]
theorem palaverref02_Sum.tab12 : rtab .any (opsOf Tryd.f63 12) = palaverref02_Sum.T12 := by kernel_rfl
theorem palaverref02_Sum.bits12 : waitsOk palaverref02_Sum.T12.2 palaverref02_Sum.B12 = true := by kernel_rfl
def palaverref02_Sum.T13 : Bool × List (List Nat × List Nat) := (true, [([], []), ([0], [0]), ([1], [1]), ([2], [2]), ([3], [3]), ([], []), ([5], [5]), ([6], [6]), ([7], [7]), ([8, 4], [8]), ([4, 9], [4, 9]), ([], []), ([11], [11]), ([12], [12]), ([13], [13]), ([14], [14]), ([10, 15], [10, 15]), ([16, 9, 0, 1, 2, 3, 4, 5, 6, 7, 8, 9, 10, 11, 12, 13, 14, 15, 16], [16])])
def palaverref02_Sum.B13 : List Nat := [0, 1, 3, 7, 15, 0, 32, 96, 224, 511, 1023, 0, 2048, 6144, 14336, 30720, 65535, 131071]
theorem palaverref02_Sum.tab13 : rtab .any (opsOf Tryd.f63 13) = palaverref02_Sum.T13 := by kernel_rfl
theorem palaverref02_Sum.bits13 : waitsOk palaverref02_Sum.T13.2 palaverref02_Sum.B13 = true := by kernel_rfl
def palaverref02_Sum.T14 : Bool × List (List Nat × List Nat) := (true, [([], []), ([0], [0]), ([1], [1]), ([2], [2]), ([3], [3]), ([], []), ([5], [5]), ([6], [6]), ([7], [7]), ([8, 4], [8]), ([4, 9], [4, 9]), ([], []), ([11], [11]), ([12], [12]), ([13], [13]), ([14], [14]), ([10, 15], [10, 15]), ([16, 9, 0, 1, 2, 3, 4, 5, 6, 7, 8, 9, 10, 11, 12, 13, 14, 15, 16], [16])])
def palaverref02_Sum.B14 : List Nat := [0, 1, 3, 7, 15, 0, 32, 96, 224, 511, 1023, 0, 2048, 6144, 14336, 30720, 65535, 131071]
theorem palaverref02_Sum.tab14 : rtab .any (opsOf Tryd.f63 14) = palaverref02_Sum.T14 := by kernel_rfl
theorem palaverref02_Sum.bits14 : waitsOk palaverref02_Sum.T14.2 palaverref02_Sum.B14 = true := by kernel_rfl
def palaverref02_Sum.T15 : Bool × List (List Nat × List Nat) := (true, [([], []), ([], []), ([1], [1]), ([2], [2]), ([3], [3]), ([], []), ([4, 5], [4, 5]), ([], []), ([7], [7]), ([8], [8]), ([9], [9]), ([6, 10], [6, 10]), ([], []), ([11, 12], [11, 12]), ([0, 0, 1, 2, 3, 4, 5, 6, 7, 8, 9, 10, 11, 12, 13], [0]), ([14, 13, 0, 1, 2, 3, 4, 5, 6, 7, 8, 9, 10, 11, 12, 13], [13, 14])])
def palaverref02_Sum.B15 : List Nat := [0, 0, 2, 6, 14, 0, 62, 0, 128, 384, 896, 2046, 0, 8190, 16383, 32767]
theorem palaverref02_Sum.tab15 : rtab .any (opsOf Tryd.f63 15) = palaverref02_Sum.T15 := by kernel_rfl
theorem palaverref02_Sum.bits15 : waitsOk palaverref02_Sum.T15.2 palaverref02_Sum.B15 = true := by kernel_rfl
def palaverref02_Sum.T16 : Bool × List (List Nat × List Nat) := (true, [([], []), ([0], [0]), ([], []), ([2], [2]), ([], []), ([4], [4]), ([], []), ([6], [6]), ([], []), ([8], [8]), ([], []), ([10], [10]), ([], []), ([12], [12]), ([], []), ([14], [14]), ([1, 0, 1], [1]), ([3, 16, 0, 1, 2, 3, 16], [3]), ([5, 17, 0, 1, 2, 3, 4, 5, 16, 17], [5]), ([7, 18, 0, 1, 2, 3, 4, 5, 6, 7, 16, 17, 18], [7]), ([9, 19, 0, 1, 2, 3, 4, 5, 6, 7, 8, 9, 16, 17, 18, 19], [9]), ([11, 20, 0, 1, 2, 3, 4, 5, 6, 7, 8, 9, 10, 11, 16, 17, 18, 19, 20], [11]), ([13, 21, 0, 1, 2, 3, 4, 5, 6, 7, 8, 9, 10, 11, 12, 13, 16, 17, 18, 19, 20, 21], [13]), ([15, 22, 0, 1, 2, 3, 4, 5, 6, 7, 8, 9, 10, 11, 12, 13, 14, 15, 16, 17, 18, 19, 20, 21, 22], [15])])
def palaverref02_Sum.B16 : List Nat := [0, 1, 0, 4, 0, 16, 0, 64, 0, 256, 0, 1024, 0, 4096, 0, 16384, 3, 65551, 196671, 459007, 984063, 2035711, 4145151, 8388607]
theorem palaverref02_Sum.tab16 : rtab .any (opsOf Tryd.f63 16) = palaverref02_Sum.T16 := by kernel_rfl
theorem palaverref02_Sum.bits16 : waitsOk palaverref02_Sum.T16.2 palaverref02_Sum.B16 = true := by kernel_rfl
def palaverref02_Sum.T22 : Bool × List (List Nat × List Nat) := (true, [([], []), ([], []), ([0, 1], [0, 1]), ([], []), ([2, 3], [2, 3]), ([], []), ([5], [5]), ([6], [6]), ([4, 7], [4, 7]), ([], []), ([9], [9]), ([10], [10]), ([8, 11], [8, 11]), ([12, 0, 1, 2, 3, 4, 5, 6, 7, 8, 9, 10, 11, 12], [12])])
def palaverref02_Sum.B22 : List Nat := [0, 0, 3, 0, 15, 0, 32, 96, 255, 0, 512, 1536, 4095, 8191]
theorem palaverref02_Sum.tab22 : rtab .any (opsOf Tryd.f63 22) = palaverref02_Sum.T22 := by kernel_rfl
theorem palaverref02_Sum.bits22 : waitsOk palaverref02_Sum.T22.2 palaverref02_Sum.B22 = true := by kernel_rfl
def palaverref02_Sum.T38 : Bool × List (List Nat × List Nat) := (true, [([], []), ([], []), ([1], [1]), ([2], [2]), ([], []), ([4], [4]), ([5], [5]), ([3, 6], [3, 6]), ([0, 0, 1, 2, 3, 4, 5, 6, 7], [0]), ([8, 7, 0, 1, 2, 3, 4, 5, 6, 7], [7, 8])])
def palaverref02_Sum.B38 : List Nat := [0, 0, 2, 6, 0, 16, 48, 126, 255, 511]
theorem palaverref02_Sum.tab38 : rtab .any (opsOf Tryd.f63 38) = palaverref02_Sum.T38 := by kernel_rfl
theorem palaverref02_Sum.bits38 : waitsOk palaverref02_Sum.T38.2 palaverref02_Sum.B38 = true := by kernel_rfl
def palaverref02_Sum.T43 : Bool × List (List Nat × List Nat) := (true, [([], []), ([], []), ([1], [1]), ([2], [2]), ([3], [3]), ([4], [4]), ([], []), ([6], [6]), ([7], [7]), ([8], [8]), ([9], [9]), ([], []), ([11], [11]), ([12], [12]), ([13], [13]), ([14], [14]), ([], []), ([16], [16]), ([17], [17]), ([18], [18]), ([5, 10, 15, 19], [5, 10, 15, 19]), ([0, 20], [0, 20]), ([21, 21, 0, 1, 2, 3, 4, 5, 6, 7, 8, 9, 10, 11, 12, 13, 14, 15, 16, 17, 18, 19, 20, 21], [0, 21])])
def palaverref02_Sum.B43 : List Nat := [0, 0, 2, 6, 14, 30, 0, 64, 192, 448, 960, 0, 2048, 6144, 14336, 30720, 0, 65536, 196608, 458752, 1048574, 2097151, 4194303]
theorem palaverref02_Sum.tab43 : rtab .any (opsOf Tryd.f63 43) = palaverref02_Sum.T43 := by kernel_rfl
theorem palaverref02_Sum.bits43 : waitsOk palaverref02_Sum.T43.2 palaverref02_Sum.B43 = true := by kernel_rfl
set_option maxHeartbeats 64000000 in
set_option maxRecDepth 100000 in
theorem palaverref02_Sum.calls (k : Nat) (a0 : ByteArray) (r : ByteArray) (w : World) (h : palaverref02_Sum.f k a0 = some r) :
 Calls Tryd.prog 63 #[.string a0] w fun e w' => e = .returned (.string r) ∧ Below w.heap.size w w' := by
 have hu109 := Tryd.underlying109
 have hu121 := Tryd.underlying121
 have HB := Aside0.mk (Below.refl w.heap.size w)
 have H : ((palaverref02_Starts.f).bind fun _ => ((some (List.replicate 8 0 : List Int)).bind fun y215 => (if y215.length = 8 then (if 0 < (y215.length : Int) then ((palaverref02_table.f).bind fun _ => ((some (List.replicate 64 0 : List Int)).bind fun y219 => (if y219.length = 64 then (if 0 < (y219.length : Int) then ((palaverref02_Padded.f k a0).bind fun t223 => (palaverref02_Sum.l0 k ([1779033703, 3144134277, 1013904242, 2773480762, 1359893119, 2600822924, 528734635, 1541459225]) ([1116352408, 1899447441, 3049323471, 3921009573, 961987163, 1508970993, 2453635748, 2870763221, 3624381080, 310598401, 607225278, 1426881987, 1925078388, 2162078206, 2614888103, 3248222580, 3835390401, 4022224774, 264347078, 604807628, 770255983, 1249150122, 1555081692, 1996064986, 2554220882, 2821834349, 2952996808, 3210313671, 3336571891, 3584528711, 113926993, 338241895, 666307205, 773529912, 1294757372, 1396182291, 1695183700, 1986661051, 2177026350, 2456956037, 2730485921, 2820302411, 3259730800, 3345764771, 3516065817, 3600352804, 4094571909, 275423344, 430227734, 506948616, 659060556, 883997877, 958139571, 1322822218, 1537002063, 1747873779, 1955562222, 2024104815, 2227730452, 2361852424, 2428436474, 2756734187, 3204031479, 3329325298]) t223 0)) else (none)) else (none)))) else (none)) else (none)))) = some r := h
 clear h
 revert H; refine oa_ fun _ A2 => oy_ fun y215 Ny215 => ne_ fun c3 c3b0 c3b1 => nd_ fun c4 c4b0 H => ?_
 have c4b1 : decide (0 < y215.length) = true := decide_eq_true (by omega)
 clear c3 c4
 generalize e_ : ([1779033703, 3144134277, 1013904242, 2773480762, 1359893119, 2600822924, 528734635, 1541459225] : List Int) = y218 at H
 have Ny218 := Aside0.mk e_.symm
 clear e_
 revert H; refine oa_ fun _ A6 => oy_ fun y219 Ny219 => ne_ fun c7 c7b0 c7b1 => nd_ fun c8 c8b0 H => ?_
 have c8b1 : decide (0 < y219.length) = true := decide_eq_true (by omega)
 clear c7 c8
 generalize e_ : ([1116352408, 1899447441, 3049323471, 3921009573, 961987163, 1508970993, 2453635748, 2870763221, 3624381080, 310598401, 607225278, 1426881987, 1925078388, 2162078206, 2614888103, 3248222580, 3835390401, 4022224774, 264347078, 604807628, 770255983, 1249150122, 1555081692, 1996064986, 2554220882, 2821834349, 2952996808, 3210313671, 3336571891, 3584528711, 113926993, 338241895, 666307205, 773529912, 1294757372, 1396182291, 1695183700, 1986661051, 2177026350, 2456956037, 2730485921, 2820302411, 3259730800, 3345764771, 3516065817, 3600352804, 4094571909, 275423344, 430227734, 506948616, 659060556, 883997877, 958139571, 1322822218, 1537002063, 1747873779, 1955562222, 2024104815, 2227730452, 2361852424, 2428436474, 2756734187, 3204031479, 3329325298] : List Int) = y222 at H
 have Ny222 := Aside0.mk e_.symm
 clear e_
 revert H; refine oa_ fun t223 A10 H => ?_
 have H' := Aside0.mk H
 clear H
 go_enter Tryd.func63, Tryd.ntmps63
 go_wp2_with (first | ((with_reducible refine gate_callee (f := 79) rfl ?_); refine gL_ 30 Tryd.func79 #[] ?_; (with_reducible refine (palaverref02_Starts.calls   _ A2.out).mono ?_); rintro e w11 ⟨rfl, hb⟩; refine ⟨_, rfl, ?_⟩; replace HB := Aside0.mk (below_step bl_ hb); (try clear hb); (try clear hb2); (try clear hk); (try clear hi)) | ((with_reducible refine gate_dst (N := 3) rfl ?_); refine R_arr (Value.int .u32) (fun _ => rfl) _ 109 ?hg (N := 3) ?hd (List.replicate 8 0) ?hr (Below.refl _ _) (Nat.le_refl _) (by decide) ?_; (case hd => rfl); (case hg => rfl); (case hr => exact gr_); intro v216 w12 ho13 hb hg_ hnew_; clear hg_ hnew_; (first | rw [← Ny215.out] at ho13 | (simp only [Int.reduceToNat] at ho13; rw [← Ny215.out] at ho13)); have HO217 := Aside0.mk (Kd.R_lower ho13 (below_size bl_)); replace HB := Aside0.mk (below_step bl_ hb); clear hb ho13; have qa5 : ((0 : Int) < (8 : Int)) = True := eq_true (by have e_ : y215.length = 8 := ad_; have h_ : (0 : Int) < ((y215.length : Int) : Int) := ad_; omega); have p5 : 0 ≤ (0 : Int) := (by omega); have q5 : (0 : Int) < ((y215.length : Int) : Int) := ad_; have qi5 : (0 < y215.length) = True := eq_true (by omega); obtain ⟨go5, co5, eo5, gb5, gl5, cl5, HG5⟩ := Kd.R_form HO217.out (by omega); (first | cases eo5 | (injection eo5 with ea_ en_ ec_; (first | subst ea_ | (injection ea_ with ea_; subst ea_)); subst ec_; clear en_)); have GB5 := Aside0.mk gb5; have GG5 := Aside0.mk HG5; clear gb5 gl5 HG5; obtain ⟨hx5_0, hf5_0⟩ := Kd.R_celln 0 HO217.out (0 : Int) p5 q5; (try rw [show ((0 : Int)).toNat = 0 from rfl] at hx5_0); (try simp only [Nat.reduceMul, Nat.zero_mul, Nat.zero_add, Nat.reduceAdd] at hx5_0); (try rw [show ((0 : Int)).toNat = 0 from rfl] at hf5_0); (try simp only [Nat.reduceMul, Nat.zero_mul, Nat.zero_add, Nat.reduceAdd] at hf5_0); replace p5 := eq_true p5; replace q5 := eq_true q5; have HP14 := R_whole (ys := [1779033703, 3144134277, 1013904242, 2773480762, 1359893119, 2600822924, 528734635, 1541459225]) HO217.out (by have e_ : y215.length = 8 := ad_; have e2_ := (Kd.R_reads' HO217.out).1; first | (rw [e_]; rfl) | (simp only [List.length_cons, List.length_nil]; omega))) | ((with_reducible refine gate_store (t := 109) (p := 3) rfl ?_); refine store_event (t := 109) (p := 3) (v := ?vo_w15) (w1 := (w12.setCells go5 0 (encs (Value.int .u32) [1779033703, 3144134277, 1013904242, 2773480762, 1359893119, 2600822924, 528734635, 1541459225]))) ?hg ?ho ?hn ?hr ?_; (case ho => rfl); (case hg => rfl); (case hn => rfl); (case hr => exact whole_run (ys := [1779033703, 3144134277, 1013904242, 2773480762, 1359893119, 2600822924, 528734635, 1541459225]) rfl rfl rfl (by kernel_rfl) HO217.out (by have e_ : y215.length = 8 := ad_; have e2_ := (Kd.R_reads' HO217.out).1; first | (rw [e_]; rfl) | (simp only [List.length_cons, List.length_nil]; omega))); intro w15 hw; have hg : w12.grownBy w15 (some go5) := (by rw [hw]; exact HP14.2); have hp_ : Kd.R (Kd.int .u32) 109 w15 w.heap.size (fun _ => True) (.slice (some ⟨go5, 0, none⟩) y215.length co5) y218 := (by rw [hw, Ny218.out]; exact HP14.1); clear HP14; replace HB := Aside0.mk ((Below.grown HB.out hg (below_size HB.out) (fun k_ e_ => (Option.some.inj e_) ▸ GB5.out) : Below w.heap.size w w15)); replace HO217 := Aside0.mk (hp_); clear hg hw hp_) | ((with_reducible refine gate_callee (f := 80) rfl ?_); refine gL_ 31 Tryd.func80 #[] ?_; (with_reducible refine (palaverref02_table.calls   _ A6.out).mono ?_); rintro e w16 ⟨rfl, hb⟩; refine ⟨_, rfl, ?_⟩; replace HB := Aside0.mk (below_step bl_ hb); replace HO217 := Aside0.mk (Kd.R_below (mv_ HO217.out) hb); (try clear hb); (try clear hb2); (try clear hk); (try clear hi)) | ((with_reducible refine gate_dst (N := 4) rfl ?_); refine R_arr (Value.int .u32) (fun _ => rfl) _ 121 ?hg (N := 4) ?hd (List.replicate 64 0) ?hr (Below.refl _ _) (Nat.le_refl _) (by decide) ?_; (case hd => rfl); (case hg => rfl); (case hr => exact gr_); intro v220 w17 ho18 hb hg_ hnew_; clear hg_ hnew_; (first | rw [← Ny219.out] at ho18 | (simp only [Int.reduceToNat] at ho18; rw [← Ny219.out] at ho18)); have HO221 := Aside0.mk (Kd.R_lower ho18 (below_size bl_)); replace HB := Aside0.mk (below_step bl_ hb); replace HO217 := Aside0.mk (Kd.R_below (mv_ HO217.out) hb); clear hb ho18; have qa9 : ((0 : Int) < (64 : Int)) = True := qa_ y219 64; have p9 : 0 ≤ (0 : Int) := (by omega); have q9 : (0 : Int) < ((y219.length : Int) : Int) := ad_; have qi9 : (0 < y219.length) = True := eq_true (by omega); obtain ⟨go9, co9, eo9, gb9, gl9, cl9, HG9⟩ := Kd.R_form HO221.out (by omega); (first | cases eo9 | (injection eo9 with ea_ en_ ec_; (first | subst ea_ | (injection ea_ with ea_; subst ea_)); subst ec_; clear en_)); have GB9 := Aside0.mk gb9; have GG9 := Aside0.mk HG9; clear gb9 gl9 HG9; obtain ⟨hx9_0, hf9_0⟩ := Kd.R_celln 0 HO221.out (0 : Int) p9 q9; (try rw [show ((0 : Int)).toNat = 0 from rfl] at hx9_0); (try simp only [Nat.reduceMul, Nat.zero_mul, Nat.zero_add, Nat.reduceAdd] at hx9_0); (try rw [show ((0 : Int)).toNat = 0 from rfl] at hf9_0); (try simp only [Nat.reduceMul, Nat.zero_mul, Nat.zero_add, Nat.reduceAdd] at hf9_0); replace p9 := eq_true p9; replace q9 := eq_true q9; have HP19 := R_whole (ys := [1116352408, 1899447441, 3049323471, 3921009573, 961987163, 1508970993, 2453635748, 2870763221, 3624381080, 310598401, 607225278, 1426881987, 1925078388, 2162078206, 2614888103, 3248222580, 3835390401, 4022224774, 264347078, 604807628, 770255983, 1249150122, 1555081692, 1996064986, 2554220882, 2821834349, 2952996808, 3210313671, 3336571891, 3584528711, 113926993, 338241895, 666307205, 773529912, 1294757372, 1396182291, 1695183700, 1986661051, 2177026350, 2456956037, 2730485921, 2820302411, 3259730800, 3345764771, 3516065817, 3600352804, 4094571909, 275423344, 430227734, 506948616, 659060556, 883997877, 958139571, 1322822218, 1537002063, 1747873779, 1955562222, 2024104815, 2227730452, 2361852424, 2428436474, 2756734187, 3204031479, 3329325298]) HO221.out (by have e_ : y219.length = 64 := ad_; have e2_ := (Kd.R_reads' HO221.out).1; first | (rw [e_]; rfl) | (simp only [List.length_cons, List.length_nil]; omega))) | ((with_reducible refine gate_store (t := 121) (p := 4) rfl ?_); refine store_event (t := 121) (p := 4) (v := ?vo_w20) (w1 := (w17.setCells go9 0 (encs (Value.int .u32) [1116352408, 1899447441, 3049323471, 3921009573, 961987163, 1508970993, 2453635748, 2870763221, 3624381080, 310598401, 607225278, 1426881987, 1925078388, 2162078206, 2614888103, 3248222580, 3835390401, 4022224774, 264347078, 604807628, 770255983, 1249150122, 1555081692, 1996064986, 2554220882, 2821834349, 2952996808, 3210313671, 3336571891, 3584528711, 113926993, 338241895, 666307205, 773529912, 1294757372, 1396182291, 1695183700, 1986661051, 2177026350, 2456956037, 2730485921, 2820302411, 3259730800, 3345764771, 3516065817, 3600352804, 4094571909, 275423344, 430227734, 506948616, 659060556, 883997877, 958139571, 1322822218, 1537002063, 1747873779, 1955562222, 2024104815, 2227730452, 2361852424, 2428436474, 2756734187, 3204031479, 3329325298]))) ?hg ?ho ?hn ?hr ?_; (case ho => rfl); (case hg => rfl); (case hn => rfl); (case hr => exact whole_run (ys := [1116352408, 1899447441, 3049323471, 3921009573, 961987163, 1508970993, 2453635748, 2870763221, 3624381080, 310598401, 607225278, 1426881987, 1925078388, 2162078206, 2614888103, 3248222580, 3835390401, 4022224774, 264347078, 604807628, 770255983, 1249150122, 1555081692, 1996064986, 2554220882, 2821834349, 2952996808, 3210313671, 3336571891, 3584528711, 113926993, 338241895, 666307205, 773529912, 1294757372, 1396182291, 1695183700, 1986661051, 2177026350, 2456956037, 2730485921, 2820302411, 3259730800, 3345764771, 3516065817, 3600352804, 4094571909, 275423344, 430227734, 506948616, 659060556, 883997877, 958139571, 1322822218, 1537002063, 1747873779, 1955562222, 2024104815, 2227730452, 2361852424, 2428436474, 2756734187, 3204031479, 3329325298]) rfl rfl rfl (by kernel_rfl) HO221.out (by have e_ : y219.length = 64 := ad_; have e2_ := (Kd.R_reads' HO221.out).1; first | (rw [e_]; rfl) | (simp only [List.length_cons, List.length_nil]; omega))); intro w20 hw; have hg : w17.grownBy w20 (some go9) := (by rw [hw]; exact HP19.2); have hp_ : Kd.R (Kd.int .u32) 121 w20 w.heap.size (fun _ => True) (.slice (some ⟨go9, 0, none⟩) y219.length co9) y222 := (by rw [hw, Ny222.out]; exact HP19.1); clear HP19; replace HB := Aside0.mk ((Below.grown HB.out hg (below_size HB.out) (fun k_ e_ => (Option.some.inj e_) ▸ GB9.out) : Below w.heap.size w w20)); replace HO217 := Aside0.mk (Kd.R_over' (v := (.slice (some ⟨go9, 0, none⟩) y219.length co9)) (mv_ HO217.out) (Kd.R_typed HO221.out) (by decide) hg); replace HO221 := Aside0.mk (hp_); clear hg hw hp_) | ((with_reducible refine gate_callee (f := 81) rfl ?_); refine gL_ 33 Tryd.func81 #[.string a0] ?_; (with_reducible refine (palaverref02_Padded.calls k a0 t223 _ A10.out).mono ?_); rintro e w21 ⟨rfl, hb⟩; refine ⟨_, rfl, ?_⟩; replace HB := Aside0.mk (below_step bl_ hb); replace HO221 := Aside0.mk (Kd.R_below (mv_ HO221.out) hb); replace HO217 := Aside0.mk (Kd.R_below (mv_ HO217.out) hb); (try clear hb); (try clear hb2); (try clear hk); (try clear hi)))
 go_loopg [6] k (fun kq v6 w' => ∃ (x3_1 : List Int) (x4_1 : List Int) (x6_1 : Int), v6 = .int .i64 x6_1 ∧ Aside0 (palaverref02_Sum.l0 kq x3_1 x4_1 t223 x6_1 = some r) ∧ Aside0 (kq ≤ k) ∧ Aside0 (Kd.R (Kd.int .u32) 109 w' w.heap.size (fun _ => True) (.slice (some ⟨go5, 0, none⟩) y215.length co5) x3_1) ∧ Aside0 (Kd.R (Kd.int .u32) 121 w' w.heap.size (fun _ => True) (.slice (some ⟨go9, 0, none⟩) y219.length co9) x4_1) ∧ Aside0 (Below w.heap.size w w'))
 case atStart => exact ⟨(y218), (y222), (0), vq_, H', ⟨Nat.le_refl _⟩, ⟨mv_ HO217.out⟩, ⟨mv_ HO221.out⟩, ⟨bl_⟩⟩
 case round =>
  clear H'
  (try clear p2); (try clear c3); (try clear c3b0); (try clear c3b1); (try clear c4); (try clear c4b0); (try clear c4b1); (try clear p5); (try clear q5); (try clear hx5); (try clear qi5); (try clear hf5); (try clear c6); (try clear p6); (try clear c7); (try clear c7b0); (try clear c7b1); (try clear c8); (try clear c8b0); (try clear c8b1); (try clear p9); (try clear q9); (try clear hx9); (try clear qi9); (try clear hf9); (try clear hx5_0); (try clear hx9_0); (try clear p5); (try clear p9); (try clear q5); (try clear q9)
  obtain ⟨x3_1, x4_1, x6_1, rfl, HA, HK1, HO_3, HO_4, HB⟩ := hrel
  have hl3_1 := (Kd.R_reads' HO_3.out).1
  rw [hl3_1] at HO_3
  (try simp only [hl3_1])
  (try simp only [hl3_1] at HO_4)
  have hl4_1 := (Kd.R_reads' HO_4.out).1
  rw [hl4_1] at HO_4
  (try simp only [hl4_1])
  (try simp only [hl4_1] at HO_3)
  cases gk with
  | zero => exact absurd HA.out (by simp [palaverref02_Sum.l0])
  | succ k1 =>
   have H := HA.out
   clear HA
   simp only [palaverref02_Sum.l0] at H
   by_cases c22 : x6_1 < (t223.size : Int)
   ·refine Nonempty.elim ?gc22p id
    letI i_ : type_of% ?gc22p := ⟨by
    rw [if_pos c22] at H
    have c22b0 : decide (x6_1 < (t223.size : Int)) = true := decide_eq_true c22
    (try (have c22b7 := c22b0; simp only [hl3_1, hl4_1] at c22b7))
    clear c22
    generalize e_ : (List.replicate 64 0 : List Int) = y224 at H
    have Ny224 := Aside0.mk e_.symm
    clear e_
    have H' := Aside0.mk H
    clear H
    go_wp2_with (first | ((with_reducible refine gate_dst (N := 7) rfl ?_); refine R_arr (Value.int .u32) (fun _ => rfl) _ 121 ?hg (N := 7) ?hd (List.replicate 64 0) ?hr (Below.refl _ _) (Nat.le_refl _) (by decide) ?_; (case hd => rfl); (case hg => rfl); (case hr => exact gr_); intro v225 w23 ho24 hb hg_ hnew_; clear hg_ hnew_; (first | rw [← Ny224.out] at ho24 | (simp only [Int.reduceToNat] at ho24; rw [← Ny224.out] at ho24)); have HO226 := Aside0.mk (Kd.R_lower (Kd.R_new' ho24 (Kd.R_lt (mv_ HO_4.out))) (below_size bl_)); replace HB := Aside0.mk (below_step bl_ hb); replace HO_4 := Aside0.mk (Kd.R_elder' (mv_ HO_4.out) (Kd.R_base ho24) hb); replace HO_3 := Aside0.mk (Kd.R_below (mv_ HO_3.out) hb); clear hb ho24))
    go_loopg [8] k1 (fun kq v8 w' => ∃ (x7_2 : List Int) (x8_2 : Int), v8 = .int .i64 x8_2 ∧ Aside0 (palaverref02_Sum.l1 kq x3_1 x4_1 t223 x6_1 x7_2 x8_2 = some r) ∧ Aside0 (kq ≤ k1) ∧ Aside0 (Kd.R (Kd.int .u32) 109 w' w.heap.size (fun _ => True) (.slice (some ⟨go5, 0, none⟩) x3_1.length co5) x3_1) ∧ Aside0 (Kd.R (Kd.int .u32) 121 w' w.heap.size (fun k_ => some k_ ≠ (v225 : Value).ownBlock) (.slice (some ⟨go9, 0, none⟩) x4_1.length co9) x4_1) ∧ Aside0 (Kd.R (Kd.int .u32) 121 w' w.heap.size (fun k_ => some k_ ≠ ((.slice (some ⟨go9, 0, none⟩) x4_1.length co9) : Value).ownBlock) v225 x7_2) ∧ Aside0 (Below w.heap.size w w'))
    case atStart => exact ⟨(y224), (0), vq_, H', ⟨Nat.le_refl _⟩, ⟨by (try simp only [hl3_1]); (try simp only [hl4_1]); refine mv_ ?_; exact HO_3.out⟩, ⟨by (try simp only [hl3_1]); (try simp only [hl4_1]); refine mv_ ?_; exact Kd.R_mono HO_4.out (fun _ hk => hk.2)⟩, ⟨by (try simp only [hl3_1]); (try simp only [hl4_1]); refine mv_ ?_; exact Kd.R_mono HO226.out (fun _ hk => hk.2)⟩, ⟨bl_⟩⟩
    case round =>
     clear H'
     (try clear c2); (try clear p2); (try clear c3); (try clear c3b0); (try clear c3b1); (try clear c4); (try clear c4b0); (try clear c4b1); (try clear p5); (try clear q5); (try clear hx5); (try clear qi5); (try clear hf5); (try clear c6); (try clear p6); (try clear c7); (try clear c7b0); (try clear c7b1); (try clear c8); (try clear c8b0); (try clear c8b1); (try clear p9); (try clear q9); (try clear hx9); (try clear qi9); (try clear hf9); (try clear c22); (try clear c22b0); (try clear c22b7); (try clear hx5_0); (try clear hx9_0); (try clear p2); (try clear p5); (try clear p6); (try clear p9); (try clear q5); (try clear q9)
     obtain ⟨x7_2, x8_2, rfl, HA, HK2, HO_3, HO_4, HO_7, HB⟩ := hrel
     cases gk with
     | zero => exact absurd HA.out (by simp [palaverref02_Sum.l1])
     | succ k2 =>
      have H := HA.out
      clear HA
      simp only [palaverref02_Sum.l1] at H
      by_cases c25 : x8_2 < 64
      ·refine Nonempty.elim ?gc25p id
       letI i_ : type_of% ?gc25p := ⟨by
       rw [if_pos c25] at H
       have c25b0 : decide (x8_2 < 64) = true := decide_eq_true c25
       (try (have c25b7 := c25b0; simp only [hl3_1, hl4_1] at c25b7))
       clear c25
       by_cases c26 : x8_2 < 16
       ·refine Nonempty.elim ?gc26p id
        letI i_ : type_of% ?gc26p := ⟨by
        rw [if_pos c26] at H
        have c26b0 : decide (x8_2 < 16) = true := decide_eq_true c26
        (try (have c26b7 := c26b0; simp only [hl3_1, hl4_1] at c26b7))
        clear c26
        generalize hji27 : (wrap64 (x6_1 + (wrap64 (4 * x8_2)))) = ji27 at H
        have hji27w := (i64_w _).trans hji27
        by_cases c28 : 0 ≤ (ji27)
        ·rw [if_pos c28] at H
         have c28b0 : decide (0 ≤ (ji27)) = true := decide_eq_true c28
         (try (have c28b7 := c28b0; simp only [hl3_1, hl4_1] at c28b7))
         clear c28
         revert H; refine nd_ fun c29 c29b0 H => ?_
         (try (have c29b7 := c29b0; simp only [hl3_1, hl4_1] at c29b7))
         clear c29
         generalize hji31 : (wrap64 ((ji27) + 1)) = ji31 at H
         have hji31w := (i64_w _).trans hji31
         revert H; refine nd_ fun c32 c32b0 => nd_ fun c33 c33b0 H => ?_
         (try (have c32b7 := c32b0; simp only [hl3_1, hl4_1] at c32b7))
         (try (have c33b7 := c33b0; simp only [hl3_1, hl4_1] at c33b7))
         clear c32 c33
         generalize hji35 : (wrap64 ((ji27) + 2)) = ji35 at H
         have hji35w := (i64_w _).trans hji35
         revert H; refine nd_ fun c36 c36b0 => nd_ fun c37 c37b0 H => ?_
         (try (have c36b7 := c36b0; simp only [hl3_1, hl4_1] at c36b7))
         (try (have c37b7 := c37b0; simp only [hl3_1, hl4_1] at c37b7))
         clear c36 c37
         generalize hji39 : (wrap64 ((ji27) + 3)) = ji39 at H
         have hji39w := (i64_w _).trans hji39
         revert H; refine nd_ fun c40 c40b0 => nd_ fun c41 c41b0 => ne_ fun c43 c43b0 c43b1 => nd_ fun c44 c44b0 => nd_ fun c45 c45b0 H => ?_
         (try (have c40b7 := c40b0; simp only [hl3_1, hl4_1] at c40b7))
         (try (have c41b7 := c41b0; simp only [hl3_1, hl4_1] at c41b7))
         (try (have c44b7 := c44b0; simp only [hl3_1, hl4_1] at c44b7))
         (try (have c45b7 := c45b0; simp only [hl3_1, hl4_1] at c45b7))
         clear c40 c41 c43 c44 c45
         generalize e_ : (x7_2.set (x8_2 : Int).toNat (((((((bt t223 (ji27)) % 4294967296) * 16777216) + (((bt t223 (ji31)) % 4294967296) * 65536)) + (((bt t223 (ji35)) % 4294967296) * 256)) + (bt t223 (ji39))) % 4294967296) : List Int) = y227 at H
         have Ny227 := Aside0.mk e_.symm
         clear e_
         have H' := Aside0.mk H
         clear H
         try go_wp2
         replace HB := Aside0.mk (below_drew1 HB.out)
         replace HO_7 := Aside0.mk (Kd.R_drew HO_7.out)
         replace HO_4 := Aside0.mk (Kd.R_drew HO_4.out)
         replace HO_3 := Aside0.mk (Kd.R_drew HO_3.out)
         have p30 := eq_true (ad_ : 0 ≤ ((ji27) : Int))
         have q30 := eq_true (ad_ : (ji27) < (t223.size : Int))
         have hx30 := bt_at t223 (ji27)
         have p34 := eq_true (ad_ : 0 ≤ ((ji31) : Int))
         have q34 := eq_true (ad_ : (ji31) < (t223.size : Int))
         have hx34 := bt_at t223 (ji31)
         have p38 := eq_true (ad_ : 0 ≤ ((ji35) : Int))
         have q38 := eq_true (ad_ : (ji35) < (t223.size : Int))
         have hx38 := bt_at t223 (ji35)
         have p42 := eq_true (ad_ : 0 ≤ ((ji39) : Int))
         have q42 := eq_true (ad_ : (ji39) < (t223.size : Int))
         have hx42 := bt_at t223 (ji39)
         have qa46 : ((x8_2 : Int) < (64 : Int)) = True := qa_ x7_2 64
         have p46 : 0 ≤ (x8_2 : Int) := ad_
         have q46 : (x8_2 : Int) < ((x7_2.length : Int) : Int) := ad_
         obtain ⟨go46, co46, eo46, gb46, gl46, cl46, HG46⟩ := Kd.R_form HO_7.out (by omega)
         (first | cases eo46 | (injection eo46 with ea_ en_ ec_; (first | subst ea_ | (injection ea_ with ea_; subst ea_)); subst ec_; clear en_))
         have GB46 := Aside0.mk gb46
         have GG46 := Aside0.mk HG46
         clear gb46 gl46 HG46
         obtain ⟨hx46_0, hf46_0⟩ := Kd.R_celln 0 HO_7.out (x8_2 : Int) p46 q46
         replace p46 := eq_true p46
         replace q46 := eq_true q46
         have HP48 := Kd.R_putn HO_7.out (x8_2 : Int) (((((((bt t223 (ji27)) % 4294967296) * 16777216) + (((bt t223 (ji31)) % 4294967296) * 65536)) + (((bt t223 (ji35)) % 4294967296) * 256)) + (bt t223 (ji39))) % 4294967296)
         rw [← Ny227.out] at HP48
         have HQ48 := Aside0.mk HP48
         clear HP48
         refine start_ (n := 40) (S := fun w' => True) (ds := [39]) #[false, false, false, false, false, false, false, false, false, false, false, false, false, false, false, false, false, false, false, false, false, false, false, false, false, false, false, false, false, false, false, false, false, false, false, false, false, false, false, false] (by kernel_rfl) rfl rfl trivial (fun hHeld => ?_); refine with_tabW palaverref02_Sum.tab12 palaverref02_Sum.bits12 (fun HT_ HW_ => ?_)
         generalize wr.drew = w47 at HO_3 HO_4 HO_7 HB GG46 HQ48 hf46_0 hx46_0 hHeld ⊢
         refine runs_ [(0, some 46), (1, some 47), (2, some 48), (3, some 49), (4, some 50), (5, some 51), (9, some 55), (10, some 56), (11, some 57), (12, some 58), (13, some 59), (14, some 60), (19, some 65), (20, some 66), (21, some 67), (22, some 68), (23, some 69), (24, some 70), (29, some 75), (30, some 76), (31, some 77), (32, some 78), (33, some 79), (34, some 80)] ?_
         iterate 24 (refine pL_ ?_)
         refine runsE_ ?_
         refine take_ (i := 6) (N := some 52) (v := ?_) (a' := ?_) #[true, true, true, true, true, true, true, false, false, true, true, true, true, true, true, false, false, false, false, true, true, true, true, true, true, false, false, false, false, true, true, true, true, true, true, false, false, false, false, false] rfl rfl (take_ofW HT_.out HW_.out (by kernel_rfl)) (fun _ _ _ h => h) (Or.inl ⟨by rfl, ?_⟩) hHeld ?_ ?_
         rotate_left
         ·intro w' _
          go_simp
          with_reducible rfl
         rotate_left
         ·simp only [pr_]
          rfl
         refine runs_ [(7, some 53), (8, some 54)] ?_
         iterate 2 (refine pL_ ?_)
         refine runsE_ ?_
         refine take_ (i := 15) (N := some 61) (v := ?_) (a' := ?_) #[true, true, true, true, true, true, true, true, true, true, true, true, true, true, true, true, false, false, false, true, true, true, true, true, true, false, false, false, false, true, true, true, true, true, true, false, false, false, false, false] rfl rfl (take_ofW HT_.out HW_.out (by kernel_rfl)) (fun _ _ _ h => h) (Or.inl ⟨by rfl, ?_⟩) hHeld ?_ ?_
         rotate_left
         ·intro w' _
          go_simp
          with_reducible rfl
         rotate_left
         ·simp only [pr_]
          rfl
         refine runs_ [(16, some 62), (17, some 63), (18, some 64)] ?_
         iterate 3 (refine pL_ ?_)
         refine runsE_ ?_
         refine take_ (i := 25) (N := some 71) (v := ?_) (a' := ?_) #[true, true, true, true, true, true, true, true, true, true, true, true, true, true, true, true, true, true, true, true, true, true, true, true, true, true, false, false, false, true, true, true, true, true, true, false, false, false, false, false] rfl rfl (take_ofW HT_.out HW_.out (by kernel_rfl)) (fun _ _ _ h => h) (Or.inl ⟨by rfl, ?_⟩) hHeld ?_ ?_
         rotate_left
         ·intro w' _
          go_simp
          with_reducible rfl
         rotate_left
         ·simp only [pr_]
          rfl
         refine runs_ [(26, some 72), (27, some 73), (28, some 74)] ?_
         iterate 3 (refine pL_ ?_)
         refine runsE_ ?_
         refine take_ (i := 35) (N := some 81) (v := ?_) (a' := ?_) #[true, true, true, true, true, true, true, true, true, true, true, true, true, true, true, true, true, true, true, true, true, true, true, true, true, true, true, true, true, true, true, true, true, true, true, true, false, false, false, false] rfl rfl (take_ofW HT_.out HW_.out (by kernel_rfl)) (fun _ _ _ h => h) (Or.inl ⟨by rfl, ?_⟩) hHeld ?_ ?_
         rotate_left
         ·intro w' _
          go_simp
          with_reducible rfl
         rotate_left
         ·simp only [pr_]
          rfl
         refine runs_ [(36, some 82), (37, some 83), (38, some 84)] ?_
         iterate 3 (refine pL_ ?_)
         refine runsE_ ?_
         refine last_ (i := 39) (N := none) #[true, true, true, true, true, true, true, true, true, true, true, true, true, true, true, true, true, true, true, true, true, true, true, true, true, true, true, true, true, true, true, true, true, true, true, true, true, true, true, true] rfl rfl (one_of HT_.out (by kernel_rfl)) (by decide) (fun K hK => ?_)
         refine skip_set ⟨go46, (x8_2 : Int).toNat, none⟩ (.int .u32 (((((((bt t223 (ji27)) % 4294967296) * 16777216) + (((bt t223 (ji31)) % 4294967296) * 65536)) + (((bt t223 (ji35)) % 4294967296) * 256)) + (bt t223 (ji39))) % 4294967296)) (by rfl) rfl ?_ ?_
         ·first | (go_simp; done) | (go_simp; rfl) | (go_simp; (try simp only [IntKind.wrap_u32, IntKind.wrap_u8]); refine congrArg (fun v_ => World.setCell _ _ (Value.int _ v_)) ?_; omega)
         refine hK.out _ _ ?_
         clear hK K
         refine done_ (done_of HT_.out (by kernel_rfl)) ?_
         try go_wp2
         go_roundg k2
         case measure => have := HK1.out; have := HK2.out; omega
         case rel => exact ⟨(y227), (wrap64 (x8_2 + 1)), vq_, H', ⟨by have := HK1.out; have := HK2.out; omega⟩, ⟨by (try simp only [hl3_1]); (try simp only [hl4_1]); refine mv_ ?_; exact Kd.R_mono (Kd.R_far (p := ⟨go46, (x8_2 : Int).toNat, none⟩) (Kd.R_types HO_3.out GG46.out (by decide)) (fun _ hk => hk.2) (.int .u32 (((((((bt t223 (ji27)) % 4294967296) * 16777216) + (((bt t223 (ji31)) % 4294967296) * 65536)) + (((bt t223 (ji35)) % 4294967296) * 256)) + (bt t223 (ji39))) % 4294967296))) (fun _ hk => trivial)⟩, ⟨by (try simp only [hl3_1]); (try simp only [hl4_1]); refine mv_ ?_; exact Kd.R_mono (Kd.R_far (p := ⟨go46, (x8_2 : Int).toNat, none⟩) (Kd.R_mono HO_4.out (fun k_ hk => (⟨hk, fun e_ => hk (by rw [e_]; rfl)⟩ : _ ∧ k_ ≠ go46))) (fun _ hk => hk.2) (.int .u32 (((((((bt t223 (ji27)) % 4294967296) * 16777216) + (((bt t223 (ji31)) % 4294967296) * 65536)) + (((bt t223 (ji35)) % 4294967296) * 256)) + (bt t223 (ji39))) % 4294967296))) (fun _ hk => hk.1)⟩, ⟨by (try simp only [hl3_1]); (try simp only [hl4_1]); refine mv_ ?_; exact HQ48.out⟩, ⟨bs_ GB46.out⟩⟩
        ·rw [if_neg c28] at H
         exact absurd H (by simp)
        ⟩
        exact inferInstanceAs _
       ·refine Nonempty.elim ?gc26n id
        letI i_ : type_of% ?gc26n := ⟨by
        rw [if_neg c26] at H
        have c26b0 : decide (x8_2 < 16) = false := decide_eq_false c26
        (try (have c26b7 := c26b0; simp only [hl3_1, hl4_1] at c26b7))
        clear c26
        by_cases c49 : x7_2.length = 64
        ·rw [if_pos c49] at H
         have c49b0 := eq_true c49
         have c49b1 : decide (x7_2.length = 64) = true := decide_eq_true c49
         clear c49
         generalize hji50 : (wrap64 (x8_2 - 15)) = ji50 at H
         have hji50w := (i64_w _).trans hji50
         revert H; refine nd_ fun c51 c51b0 => nd_ fun c52 c52b0 => oa_ fun t229 A53 => oa_ fun t231 A54 H => ?_
         (try (have c51b7 := c51b0; simp only [hl3_1, hl4_1] at c51b7))
         (try (have c52b7 := c52b0; simp only [hl3_1, hl4_1] at c52b7))
         clear c51 c52
         generalize hji55 : (wrap64 (x8_2 - 2)) = ji55 at H
         (try rw [hji55] at A53)
         (try rw [hji55] at A54)
         have hji55w := (i64_w _).trans hji55
         revert H; refine nd_ fun c56 c56b0 => nd_ fun c57 c57b0 => oa_ fun t234 A58 => oa_ fun t236 A59 H => ?_
         (try (have c56b7 := c56b0; simp only [hl3_1, hl4_1] at c56b7))
         (try (have c57b7 := c57b0; simp only [hl3_1, hl4_1] at c57b7))
         clear c56 c57
         generalize hji60 : (wrap64 (x8_2 - 16)) = ji60 at H
         (try rw [hji60] at A53)
         (try rw [hji60] at A54)
         (try rw [hji60] at A58)
         (try rw [hji60] at A59)
         have hji60w := (i64_w _).trans hji60
         revert H; refine nd_ fun c61 c61b0 => nd_ fun c62 c62b0 H => ?_
         (try (have c61b7 := c61b0; simp only [hl3_1, hl4_1] at c61b7))
         (try (have c62b7 := c62b0; simp only [hl3_1, hl4_1] at c62b7))
         clear c61 c62
         generalize hji63 : (wrap64 (x8_2 - 7)) = ji63 at H
         (try rw [hji63] at A53)
         (try rw [hji63] at A54)
         (try rw [hji63] at A58)
         (try rw [hji63] at A59)
         have hji63w := (i64_w _).trans hji63
         revert H; refine nd_ fun c64 c64b0 => nd_ fun c65 c65b0 => nd_ fun c66 c66b0 => nd_ fun c67 c67b0 H => ?_
         (try (have c64b7 := c64b0; simp only [hl3_1, hl4_1] at c64b7))
         (try (have c65b7 := c65b0; simp only [hl3_1, hl4_1] at c65b7))
         (try (have c66b7 := c66b0; simp only [hl3_1, hl4_1] at c66b7))
         (try (have c67b7 := c67b0; simp only [hl3_1, hl4_1] at c67b7))
         clear c64 c65 c66 c67
         generalize e_ : (x7_2.set (x8_2 : Int).toNat (((((rd x7_2 (ji60)) + (Go.bits .xor .u32 (Go.bits .xor .u32 t229 t231) ((rd x7_2 (ji50)) / 8))) + (rd x7_2 (ji63))) + (Go.bits .xor .u32 (Go.bits .xor .u32 t234 t236) ((rd x7_2 (ji55)) / 1024))) % 4294967296) : List Int) = y240 at H
         have Ny240 := Aside0.mk e_.symm
         clear e_
         have H' := Aside0.mk H
         clear H
         try go_wp2
         replace HB := Aside0.mk (below_drew1 HB.out)
         replace HO_7 := Aside0.mk (Kd.R_drew HO_7.out)
         replace HO_4 := Aside0.mk (Kd.R_drew HO_4.out)
         replace HO_3 := Aside0.mk (Kd.R_drew HO_3.out)
         obtain ⟨Ao70, co70, eo70⟩ := Kd.R_slice HO_7.out
         (first | subst eo70 | (injection eo70 with f1_ f2_ f3_; have f4_ := f1_.symm; have f5_ := f3_.symm; clear f1_ f2_ f3_; subst f4_; subst f5_))
         have qa228 : (((ji50) : Int) < (64 : Int)) = True := qa_ x7_2 64
         have p228 : 0 ≤ ((ji50) : Int) := ad_
         have q228 : (ji50) < (x7_2.length : Int) := ad_
         obtain ⟨ad228, e228, hx228_0⟩ := Kd.at_int (Kd.R_reads' HO_7.out).2.2 (ji50) p228 q228
         cases e228
         replace p228 := eq_true p228
         replace q228 := eq_true q228
         have qa230 : (((ji50) : Int) < (64 : Int)) = True := qa_ x7_2 64
         have p230 : 0 ≤ ((ji50) : Int) := ad_
         have q230 : (ji50) < (x7_2.length : Int) := ad_
         obtain ⟨ad230, e230, hx230_0⟩ := Kd.at_int (Kd.R_reads' HO_7.out).2.2 (ji50) p230 q230
         obtain rfl : ad228 = ad230 := (by injection e230)
         replace p230 := eq_true p230
         replace q230 := eq_true q230
         have qa232 : (((ji50) : Int) < (64 : Int)) = True := qa_ x7_2 64
         have p232 : 0 ≤ ((ji50) : Int) := ad_
         have q232 : (ji50) < (x7_2.length : Int) := ad_
         obtain ⟨ad232, e232, hx232_0⟩ := Kd.at_int (Kd.R_reads' HO_7.out).2.2 (ji50) p232 q232
         obtain rfl : ad228 = ad232 := (by injection e232)
         replace p232 := eq_true p232
         replace q232 := eq_true q232
         refine start_ (n := 18) (S := fun w' => w'.cell? (ad228.add ((ji50)).toNat) = some (.int .u32 (rd x7_2 (ji50))) ∧ w'.cell? (ad228.add ((ji50)).toNat) = some (.int .u32 (rd x7_2 (ji50))) ∧ w'.cell? (ad228.add ((ji50)).toNat) = some (.int .u32 (rd x7_2 (ji50)))) (ds := []) #[false, false, false, false, false, false, false, false, false, false, false, false, false, false, false, false, false, false] (by kernel_rfl) rfl rfl ⟨hx228_0, hx230_0, hx232_0⟩ (fun hHeld => ?_); refine with_tabW palaverref02_Sum.tab13 palaverref02_Sum.bits13 (fun HT_ HW_ => ?_)
         generalize wr.drew = w69 at HO_3 HO_4 HO_7 HB hx228_0 hx230_0 hx232_0 hHeld ⊢
         refine runs_ [(0, some 85), (1, some 86), (2, some 87), (5, some 90), (6, some 91), (7, some 92), (11, some 96), (12, some 97), (13, some 98)] ?_
         iterate 9 (refine pL_ ?_)
         refine runsE_ ?_
         refine runs_ [(3, some 88), (8, some 93), (14, some 99)] ?_
         iterate 3 (refine takeL_ (v := ?_) (a' := ?_) rfl rfl (take_ofW HT_.out HW_.out (by kernel_rfl)) (Or.inl ⟨by rfl, ?_⟩) hHeld ?_ ?_ (fun _ _ _ h => h); rotate_left; (rintro w' ⟨s0, s1, s2⟩; go_simp; with_reducible rfl); rotate_left; (simp only [pr_]; rfl))
         refine runsE_ ?_
         refine pure_ (i := 15) (N := some 100) (v := ?_) (a' := ?_) #[true, true, true, true, false, true, true, true, true, false, false, true, true, true, true, true, false, false] rfl rfl (any_of HT_.out (by kernel_rfl)) (fun _ _ _ h => h) (Or.inl ⟨by rfl, ?_⟩) ?_ ?_
         rotate_left
         ·intro w'
          go_simp
          with_reducible rfl
         rotate_left
         ·simp only [pr_]
          rfl
         refine one_ (i := 4) (N := some 89) #[true, true, true, true, true, true, true, true, true, false, false, true, true, true, true, true, false, false] rfl rfl (one_of HT_.out (by kernel_rfl)) (by decide) (fun K hK => ?_)
         refine goes_ Tryd.func82 (by kernel_rfl) rfl #[.int .u32 (rd x7_2 (ji50)), .int .u32 7] (by rfl) rfl rfl (by (try simp only [List.map_toArray, List.map_cons, List.map_nil]); first | done | (simp only [hji50]; rfl) | rfl | (simp only [List.length_drop, List.length_take]; rfl)) ?_
         with_reducible refine (palaverref02_turn.calls (rd x7_2 (ji50)) 7 t229 _ A53.out).mono ?_
         rintro e w' ⟨rfl, ⟨nd, rfl⟩⟩
         refine ⟨_, rfl, ?_⟩
         refine hK.out _ _ ⟨hHeld.1, hHeld.2.1, hHeld.2.2⟩ (fun hHeld => ?_)
         clear hK K
         refine norm_ (a' := ?_) ?_ ?_
         rotate_left
         ·show Act.put _ (some 89) _ = _
          simp only [pr_]
          rfl
         refine one_ (i := 9) (N := some 94) #[true, true, true, true, true, true, true, true, true, true, false, true, true, true, true, true, false, false] rfl rfl (one_of HT_.out (by kernel_rfl)) (by decide) (fun K hK => ?_)
         refine goes_ Tryd.func82 (by kernel_rfl) rfl #[.int .u32 (rd x7_2 (ji50)), .int .u32 18] (by rfl) rfl rfl (by (try simp only [List.map_toArray, List.map_cons, List.map_nil]); first | done | (simp only [hji50]; rfl) | rfl | (simp only [List.length_drop, List.length_take]; rfl)) ?_
         with_reducible refine (palaverref02_turn.calls (rd x7_2 (ji50)) 18 t231 _ A54.out).mono ?_
         rintro e w' ⟨rfl, ⟨nd, rfl⟩⟩
         refine ⟨_, rfl, ?_⟩
         refine hK.out _ _ ⟨hHeld.1, hHeld.2.1, hHeld.2.2⟩ (fun hHeld => ?_)
         clear hK K
         refine norm_ (a' := ?_) ?_ ?_
         rotate_left
         ·show Act.put _ (some 94) _ = _
          simp only [pr_]
          rfl
         refine runs_ [(10, some 95), (16, some 101), (17, some 9)] ?_
         iterate 3 (refine pL_ ?_)
         refine runsE_ ?_
         refine done_ (done_of HT_.out (by kernel_rfl)) ?_
         try go_wp2
         (try (rw [drewN_self w69]; generalize hq_ : World.drewN w69 _ = w69; have n0_ : Aside0 (Kd.R (Kd.int .u32) 109 w69 w.heap.size (fun _ => True) (.slice (some ⟨go5, 0, none⟩) x3_1.length co5) x3_1) := ⟨by rw [← hq_]; exact (mv_ HO_3.out)⟩; have n1_ : Aside0 (Kd.R (Kd.int .u32) 121 w69 w.heap.size (fun k_ => some k_ ≠ (.slice (some ad228) x7_2.length co70 : Value).ownBlock) (.slice (some ⟨go9, 0, none⟩) x4_1.length co9) x4_1) := ⟨by rw [← hq_]; exact (mv_ HO_4.out)⟩; have n2_ : Aside0 (Kd.R (Kd.int .u32) 121 w69 w.heap.size (fun k_ => some k_ ≠ (.slice (some ⟨go9, 0, none⟩) x4_1.length co9 : Value).ownBlock) (.slice (some ad228) x7_2.length co70) x7_2) := ⟨by rw [← hq_]; exact (mv_ HO_7.out)⟩; have n3_ : Aside0 (Below w.heap.size w w69) := ⟨by rw [← hq_]; exact bl_⟩; clear HO_3 HO_4 HO_7 HB hq_; have HO_3 := n0_; have HO_4 := n1_; have HO_7 := n2_; have HB := n3_; clear n0_ n1_ n2_ n3_))
         replace HB := Aside0.mk (below_drew1 HB.out)
         replace HO_7 := Aside0.mk (Kd.R_drew HO_7.out)
         replace HO_4 := Aside0.mk (Kd.R_drew HO_4.out)
         replace HO_3 := Aside0.mk (Kd.R_drew HO_3.out)
         have qa233 : (((ji55) : Int) < (64 : Int)) = True := qa_ x7_2 64
         have p233 : 0 ≤ ((ji55) : Int) := ad_
         have q233 : (ji55) < (x7_2.length : Int) := ad_
         obtain ⟨ad233, e233, hx233_0⟩ := Kd.at_int (Kd.R_reads' HO_7.out).2.2 (ji55) p233 q233
         obtain rfl : ad228 = ad233 := (by injection e233)
         replace p233 := eq_true p233
         replace q233 := eq_true q233
         have qa235 : (((ji55) : Int) < (64 : Int)) = True := qa_ x7_2 64
         have p235 : 0 ≤ ((ji55) : Int) := ad_
         have q235 : (ji55) < (x7_2.length : Int) := ad_
         obtain ⟨ad235, e235, hx235_0⟩ := Kd.at_int (Kd.R_reads' HO_7.out).2.2 (ji55) p235 q235
         obtain rfl : ad228 = ad235 := (by injection e235)
         replace p235 := eq_true p235
         replace q235 := eq_true q235
         have qa237 : (((ji55) : Int) < (64 : Int)) = True := qa_ x7_2 64
         have p237 : 0 ≤ ((ji55) : Int) := ad_
         have q237 : (ji55) < (x7_2.length : Int) := ad_
         obtain ⟨ad237, e237, hx237_0⟩ := Kd.at_int (Kd.R_reads' HO_7.out).2.2 (ji55) p237 q237
         obtain rfl : ad228 = ad237 := (by injection e237)
         replace p237 := eq_true p237
         replace q237 := eq_true q237
         refine start_ (n := 18) (S := fun w' => w'.cell? (ad228.add ((ji55)).toNat) = some (.int .u32 (rd x7_2 (ji55))) ∧ w'.cell? (ad228.add ((ji55)).toNat) = some (.int .u32 (rd x7_2 (ji55))) ∧ w'.cell? (ad228.add ((ji55)).toNat) = some (.int .u32 (rd x7_2 (ji55)))) (ds := []) #[false, false, false, false, false, false, false, false, false, false, false, false, false, false, false, false, false, false] (by kernel_rfl) rfl rfl ⟨hx233_0, hx235_0, hx237_0⟩ (fun hHeld => ?_); refine with_tabW palaverref02_Sum.tab14 palaverref02_Sum.bits14 (fun HT_ HW_ => ?_)
         generalize w69.drew = w71 at HO_3 HO_4 HO_7 HB hx233_0 hx235_0 hx237_0 hHeld ⊢
         refine runs_ [(0, some 102), (1, some 103), (2, some 104), (5, some 107), (6, some 108), (7, some 109), (11, some 113), (12, some 114), (13, some 115)] ?_
         iterate 9 (refine pL_ ?_)
         refine runsE_ ?_
         refine runs_ [(3, some 105), (8, some 110), (14, some 116)] ?_
         iterate 3 (refine takeL_ (v := ?_) (a' := ?_) rfl rfl (take_ofW HT_.out HW_.out (by kernel_rfl)) (Or.inl ⟨by rfl, ?_⟩) hHeld ?_ ?_ (fun _ _ _ h => h); rotate_left; (rintro w' ⟨s0, s1, s2⟩; go_simp; with_reducible rfl); rotate_left; (simp only [pr_]; rfl))
         refine runsE_ ?_
         refine pure_ (i := 15) (N := some 117) (v := ?_) (a' := ?_) #[true, true, true, true, false, true, true, true, true, false, false, true, true, true, true, true, false, false] rfl rfl (any_of HT_.out (by kernel_rfl)) (fun _ _ _ h => h) (Or.inl ⟨by rfl, ?_⟩) ?_ ?_
         rotate_left
         ·intro w'
          go_simp
          with_reducible rfl
         rotate_left
         ·simp only [pr_]
          rfl
         refine one_ (i := 4) (N := some 106) #[true, true, true, true, true, true, true, true, true, false, false, true, true, true, true, true, false, false] rfl rfl (one_of HT_.out (by kernel_rfl)) (by decide) (fun K hK => ?_)
         refine goes_ Tryd.func82 (by kernel_rfl) rfl #[.int .u32 (rd x7_2 (ji55)), .int .u32 17] (by rfl) rfl rfl (by (try simp only [List.map_toArray, List.map_cons, List.map_nil]); first | done | (simp only [hji55]; rfl) | rfl | (simp only [List.length_drop, List.length_take]; rfl)) ?_
         with_reducible refine (palaverref02_turn.calls (rd x7_2 (ji55)) 17 t234 _ A58.out).mono ?_
         rintro e w' ⟨rfl, ⟨nd, rfl⟩⟩
         refine ⟨_, rfl, ?_⟩
         refine hK.out _ _ ⟨hHeld.1, hHeld.2.1, hHeld.2.2⟩ (fun hHeld => ?_)
         clear hK K
         refine norm_ (a' := ?_) ?_ ?_
         rotate_left
         ·show Act.put _ (some 106) _ = _
          simp only [pr_]
          rfl
         refine one_ (i := 9) (N := some 111) #[true, true, true, true, true, true, true, true, true, true, false, true, true, true, true, true, false, false] rfl rfl (one_of HT_.out (by kernel_rfl)) (by decide) (fun K hK => ?_)
         refine goes_ Tryd.func82 (by kernel_rfl) rfl #[.int .u32 (rd x7_2 (ji55)), .int .u32 19] (by rfl) rfl rfl (by (try simp only [List.map_toArray, List.map_cons, List.map_nil]); first | done | (simp only [hji55]; rfl) | rfl | (simp only [List.length_drop, List.length_take]; rfl)) ?_
         with_reducible refine (palaverref02_turn.calls (rd x7_2 (ji55)) 19 t236 _ A59.out).mono ?_
         rintro e w' ⟨rfl, ⟨nd, rfl⟩⟩
         refine ⟨_, rfl, ?_⟩
         refine hK.out _ _ ⟨hHeld.1, hHeld.2.1, hHeld.2.2⟩ (fun hHeld => ?_)
         clear hK K
         refine norm_ (a' := ?_) ?_ ?_
         rotate_left
         ·show Act.put _ (some 111) _ = _
          simp only [pr_]
          rfl
         refine runs_ [(10, some 112), (16, some 118), (17, some 10)] ?_
         iterate 3 (refine pL_ ?_)
         refine runsE_ ?_
         refine done_ (done_of HT_.out (by kernel_rfl)) ?_
         try go_wp2
         (try (rw [drewN_self w71]; generalize hq_ : World.drewN w71 _ = w71; have n0_ : Aside0 (Kd.R (Kd.int .u32) 109 w71 w.heap.size (fun _ => True) (.slice (some ⟨go5, 0, none⟩) x3_1.length co5) x3_1) := ⟨by rw [← hq_]; exact (mv_ HO_3.out)⟩; have n1_ : Aside0 (Kd.R (Kd.int .u32) 121 w71 w.heap.size (fun k_ => some k_ ≠ (.slice (some ad228) x7_2.length co70 : Value).ownBlock) (.slice (some ⟨go9, 0, none⟩) x4_1.length co9) x4_1) := ⟨by rw [← hq_]; exact (mv_ HO_4.out)⟩; have n2_ : Aside0 (Kd.R (Kd.int .u32) 121 w71 w.heap.size (fun k_ => some k_ ≠ (.slice (some ⟨go9, 0, none⟩) x4_1.length co9 : Value).ownBlock) (.slice (some ad228) x7_2.length co70) x7_2) := ⟨by rw [← hq_]; exact (mv_ HO_7.out)⟩; have n3_ : Aside0 (Below w.heap.size w w71) := ⟨by rw [← hq_]; exact bl_⟩; clear HO_3 HO_4 HO_7 HB hq_; have HO_3 := n0_; have HO_4 := n1_; have HO_7 := n2_; have HB := n3_; clear n0_ n1_ n2_ n3_))
         replace HB := Aside0.mk (below_drew1 HB.out)
         replace HO_7 := Aside0.mk (Kd.R_drew HO_7.out)
         replace HO_4 := Aside0.mk (Kd.R_drew HO_4.out)
         replace HO_3 := Aside0.mk (Kd.R_drew HO_3.out)
         have qa238 : (((ji60) : Int) < (64 : Int)) = True := qa_ x7_2 64
         have p238 : 0 ≤ ((ji60) : Int) := ad_
         have q238 : (ji60) < (x7_2.length : Int) := ad_
         obtain ⟨ad238, e238, hx238_0⟩ := Kd.at_int (Kd.R_reads' HO_7.out).2.2 (ji60) p238 q238
         obtain rfl : ad228 = ad238 := (by injection e238)
         replace p238 := eq_true p238
         replace q238 := eq_true q238
         have qa239 : (((ji63) : Int) < (64 : Int)) = True := qa_ x7_2 64
         have p239 : 0 ≤ ((ji63) : Int) := ad_
         have q239 : (ji63) < (x7_2.length : Int) := ad_
         obtain ⟨ad239, e239, hx239_0⟩ := Kd.at_int (Kd.R_reads' HO_7.out).2.2 (ji63) p239 q239
         obtain rfl : ad228 = ad239 := (by injection e239)
         replace p239 := eq_true p239
         replace q239 := eq_true q239
         have qa68 : ((x8_2 : Int) < (64 : Int)) = True := qa_ x7_2 64
         have p68 : 0 ≤ (x8_2 : Int) := ad_
         have q68 : (x8_2 : Int) < ((x7_2.length : Int) : Int) := ad_
         obtain ⟨go68, co68, eo68, gb68, gl68, cl68, HG68⟩ := Kd.R_form HO_7.out (by omega)
         (first | cases eo68 | (injection eo68 with ea_ en_ ec_; (first | subst ea_ | (injection ea_ with ea_; subst ea_)); subst ec_; clear en_))
         have GB68 := Aside0.mk gb68
         have GG68 := Aside0.mk HG68
         clear gb68 gl68 HG68
         (first | simp only [add_plain] at hx228_0 | skip)
         (first | simp only [add_plain] at hx230_0 | skip)
         (first | simp only [add_plain] at hx232_0 | skip)
         (first | simp only [add_plain] at hx233_0 | skip)
         (first | simp only [add_plain] at hx235_0 | skip)
         (first | simp only [add_plain] at hx237_0 | skip)
         (first | simp only [add_plain] at hx238_0 | skip)
         (first | simp only [add_plain] at hx239_0 | skip)
         obtain ⟨hx68_0, hf68_0⟩ := Kd.R_celln 0 HO_7.out (x8_2 : Int) p68 q68
         replace p68 := eq_true p68
         replace q68 := eq_true q68
         have HP73 := Kd.R_putn HO_7.out (x8_2 : Int) (((((rd x7_2 (ji60)) + (Go.bits .xor .u32 (Go.bits .xor .u32 t229 t231) ((rd x7_2 (ji50)) / 8))) + (rd x7_2 (ji63))) + (Go.bits .xor .u32 (Go.bits .xor .u32 t234 t236) ((rd x7_2 (ji55)) / 1024))) % 4294967296)
         rw [← Ny240.out] at HP73
         have HQ73 := Aside0.mk HP73
         clear HP73
         refine start_ (n := 16) (S := fun w' => w'.cell? ⟨go68, ((ji60)).toNat, none⟩ = some (.int .u32 (rd x7_2 (ji60))) ∧ w'.cell? ⟨go68, ((ji63)).toNat, none⟩ = some (.int .u32 (rd x7_2 (ji63)))) (ds := [15]) #[false, false, false, false, false, false, false, false, false, false, false, false, false, false, false, false] (by kernel_rfl) rfl rfl ⟨hx238_0, hx239_0⟩ (fun hHeld => ?_); refine with_tabW palaverref02_Sum.tab15 palaverref02_Sum.bits15 (fun HT_ HW_ => ?_)
         generalize w71.drew = w72 at HO_3 HO_4 HO_7 HB GG68 HQ73 hf68_0 hx228_0 hx230_0 hx232_0 hx233_0 hx235_0 hx237_0 hx238_0 hx239_0 hx68_0 hHeld ⊢
         refine runs_ [(0, some 119), (1, some 120), (2, some 121), (3, some 122), (5, some 124), (7, some 126), (8, some 127), (9, some 128), (12, some 131)] ?_
         iterate 9 (refine pL_ ?_)
         refine runsE_ ?_
         refine take_ (i := 4) (N := some 123) (v := ?_) (a' := ?_) #[true, true, true, true, true, true, false, true, true, true, false, false, true, false, false, false] rfl rfl (take_ofW HT_.out HW_.out (by kernel_rfl)) (fun _ _ _ h => h) (Or.inl ⟨by rfl, ?_⟩) hHeld ?_ ?_
         rotate_left
         ·rintro w' ⟨s0, s1⟩
          go_simp
          with_reducible rfl
         rotate_left
         ·simp only [pr_]
          rfl
         refine pure_ (i := 6) (N := some 125) (v := ?_) (a' := ?_) #[true, true, true, true, true, true, true, true, true, true, false, false, true, false, false, false] rfl rfl (any_of HT_.out (by kernel_rfl)) (fun _ _ _ h => h) (Or.inl ⟨by rfl, ?_⟩) ?_ ?_
         rotate_left
         ·intro w'
          go_simp
          with_reducible rfl
         rotate_left
         ·simp only [pr_]
          rfl
         refine take_ (i := 10) (N := some 129) (v := ?_) (a' := ?_) #[true, true, true, true, true, true, true, true, true, true, true, false, true, false, false, false] rfl rfl (take_ofW HT_.out HW_.out (by kernel_rfl)) (fun _ _ _ h => h) (Or.inl ⟨by rfl, ?_⟩) hHeld ?_ ?_
         rotate_left
         ·rintro w' ⟨s0, s1⟩
          go_simp
          with_reducible rfl
         rotate_left
         ·simp only [pr_]
          rfl
         refine runs_ [(11, some 130), (13, some 132), (14, some 133)] ?_
         iterate 3 (refine pL_ ?_)
         refine runsE_ ?_
         refine last_ (i := 15) (N := none) #[true, true, true, true, true, true, true, true, true, true, true, true, true, true, true, true] rfl rfl (one_of HT_.out (by kernel_rfl)) (by decide) (fun K hK => ?_)
         refine skip_set ⟨go68, (x8_2 : Int).toNat, none⟩ (.int .u32 (((((rd x7_2 (ji60)) + (Go.bits .xor .u32 (Go.bits .xor .u32 t229 t231) ((rd x7_2 (ji50)) / 8))) + (rd x7_2 (ji63))) + (Go.bits .xor .u32 (Go.bits .xor .u32 t234 t236) ((rd x7_2 (ji55)) / 1024))) % 4294967296)) (by rfl) rfl ?_ ?_
         ·first | (go_simp; done) | (go_simp; rfl) | (go_simp; (try simp only [IntKind.wrap_u32, IntKind.wrap_u8]); refine congrArg (fun v_ => World.setCell _ _ (Value.int _ v_)) ?_; omega)
         refine hK.out _ _ ?_
         clear hK K
         refine done_ (done_of HT_.out (by kernel_rfl)) ?_
         try go_wp2
         go_roundg k2
         case measure => have := HK1.out; have := HK2.out; omega
         case rel => exact ⟨(y240), (wrap64 (x8_2 + 1)), vq_, H', ⟨by have := HK1.out; have := HK2.out; omega⟩, ⟨by (try simp only [hl3_1]); (try simp only [hl4_1]); refine mv_ ?_; exact Kd.R_mono (Kd.R_far (p := ⟨go68, (x8_2 : Int).toNat, none⟩) (Kd.R_types HO_3.out GG68.out (by decide)) (fun _ hk => hk.2) (.int .u32 (((((rd x7_2 (ji60)) + (Go.bits .xor .u32 (Go.bits .xor .u32 t229 t231) ((rd x7_2 (ji50)) / 8))) + (rd x7_2 (ji63))) + (Go.bits .xor .u32 (Go.bits .xor .u32 t234 t236) ((rd x7_2 (ji55)) / 1024))) % 4294967296))) (fun _ hk => trivial)⟩, ⟨by (try simp only [hl3_1]); (try simp only [hl4_1]); refine mv_ ?_; exact Kd.R_mono (Kd.R_far (p := ⟨go68, (x8_2 : Int).toNat, none⟩) (Kd.R_mono HO_4.out (fun k_ hk => (⟨hk, fun e_ => hk (by rw [e_]; rfl)⟩ : _ ∧ k_ ≠ go68))) (fun _ hk => hk.2) (.int .u32 (((((rd x7_2 (ji60)) + (Go.bits .xor .u32 (Go.bits .xor .u32 t229 t231) ((rd x7_2 (ji50)) / 8))) + (rd x7_2 (ji63))) + (Go.bits .xor .u32 (Go.bits .xor .u32 t234 t236) ((rd x7_2 (ji55)) / 1024))) % 4294967296))) (fun _ hk => hk.1)⟩, ⟨by (try simp only [hl3_1]); (try simp only [hl4_1]); refine mv_ ?_; exact HQ73.out⟩, ⟨bs_ GB68.out⟩⟩
        ·rw [if_neg c49] at H
         exact absurd H (by simp)
        ⟩
        exact inferInstanceAs _
       ⟩
       exact inferInstanceAs _
      refine Nonempty.elim ?gc25n id
      letI i_ : type_of% ?gc25n := ⟨by
      rw [if_neg c25] at H
      have c25b0 : decide (x8_2 < 64) = false := decide_eq_false c25
      (try (have c25b7 := c25b0; simp only [hl3_1, hl4_1] at c25b7))
      clear c25
      by_cases c74 : x3_1.length = 8
      ·rw [if_pos c74] at H
       have c74b0 := eq_true c74
       have c74b1 : decide (x3_1.length = 8) = true := decide_eq_true c74
       clear c74
       revert H; refine nd_ fun c75 c75b0 => nd_ fun c76 c76b0 => nd_ fun c77 c77b0 => nd_ fun c78 c78b0 => nd_ fun c79 c79b0 => nd_ fun c80 c80b0 => nd_ fun c81 c81b0 => nd_ fun c82 c82b0 H => ?_
       have c75b1 : decide (0 < x3_1.length) = true := decide_eq_true (by omega)
       (try (have c75b7 := c75b0; simp only [hl3_1, hl4_1] at c75b7))
       (try (have c75b8 := c75b1; simp only [hl3_1, hl4_1] at c75b8))
       have c76b1 : decide (1 < x3_1.length) = true := decide_eq_true (by omega)
       (try (have c76b7 := c76b0; simp only [hl3_1, hl4_1] at c76b7))
       (try (have c76b8 := c76b1; simp only [hl3_1, hl4_1] at c76b8))
       have c77b1 : decide (2 < x3_1.length) = true := decide_eq_true (by omega)
       (try (have c77b7 := c77b0; simp only [hl3_1, hl4_1] at c77b7))
       (try (have c77b8 := c77b1; simp only [hl3_1, hl4_1] at c77b8))
       have c78b1 : decide (3 < x3_1.length) = true := decide_eq_true (by omega)
       (try (have c78b7 := c78b0; simp only [hl3_1, hl4_1] at c78b7))
       (try (have c78b8 := c78b1; simp only [hl3_1, hl4_1] at c78b8))
       have c79b1 : decide (4 < x3_1.length) = true := decide_eq_true (by omega)
       (try (have c79b7 := c79b0; simp only [hl3_1, hl4_1] at c79b7))
       (try (have c79b8 := c79b1; simp only [hl3_1, hl4_1] at c79b8))
       have c80b1 : decide (5 < x3_1.length) = true := decide_eq_true (by omega)
       (try (have c80b7 := c80b0; simp only [hl3_1, hl4_1] at c80b7))
       (try (have c80b8 := c80b1; simp only [hl3_1, hl4_1] at c80b8))
       have c81b1 : decide (6 < x3_1.length) = true := decide_eq_true (by omega)
       (try (have c81b7 := c81b0; simp only [hl3_1, hl4_1] at c81b7))
       (try (have c81b8 := c81b1; simp only [hl3_1, hl4_1] at c81b8))
       have c82b1 : decide (7 < x3_1.length) = true := decide_eq_true (by omega)
       (try (have c82b7 := c82b0; simp only [hl3_1, hl4_1] at c82b7))
       (try (have c82b8 := c82b1; simp only [hl3_1, hl4_1] at c82b8))
       clear c75 c76 c77 c78 c79 c80 c81 c82
       have H' := Aside0.mk H
       clear H
       try go_wp2
       replace HB := Aside0.mk (below_drew1 HB.out)
       replace HO_7 := Aside0.mk (Kd.R_drew HO_7.out)
       replace HO_4 := Aside0.mk (Kd.R_drew HO_4.out)
       replace HO_3 := Aside0.mk (Kd.R_drew HO_3.out)
       have qa241 : ((0 : Int) < (8 : Int)) = True := qa_ x3_1 8
       have p241 : 0 ≤ (0 : Int) := (by omega)
       have q241 : 0 < (x3_1.length : Int) := ad_
       obtain ⟨ad241, e241, hx241_0⟩ := Kd.at_int (Kd.R_reads' HO_3.out).2.2 0 p241 q241
       obtain rfl : (⟨go5, 0, none⟩ : Addr) = ad241 := (by injection e241)
       (first | simp only [add_plain] at hx241_0 | simp only [add_at] at hx241_0 | simp only [Addr.add, Nat.zero_add] at hx241_0 | skip)
       have qi241 : (0 < x3_1.length) = True := eq_true (by omega)
       (try rw [show ((0 : Int)).toNat = 0 from rfl] at hx241_0)
       (try rw [Addr.add_zero'] at hx241_0)
       replace p241 := eq_true p241
       replace q241 := eq_true q241
       have qa242 : ((1 : Int) < (8 : Int)) = True := qa_ x3_1 8
       have p242 : 0 ≤ (1 : Int) := (by omega)
       have q242 : 1 < (x3_1.length : Int) := ad_
       obtain ⟨ad242, e242, hx242_0⟩ := Kd.at_int (Kd.R_reads' HO_3.out).2.2 1 p242 q242
       obtain rfl : (⟨go5, 0, none⟩ : Addr) = ad242 := (by injection e242)
       (first | simp only [add_plain] at hx242_0 | simp only [add_at] at hx242_0 | simp only [Addr.add, Nat.zero_add] at hx242_0 | skip)
       have qi242 : (1 < x3_1.length) = True := eq_true (by omega)
       (try rw [show ((1 : Int)).toNat = 1 from rfl] at hx242_0)
       replace p242 := eq_true p242
       replace q242 := eq_true q242
       have qa243 : ((2 : Int) < (8 : Int)) = True := qa_ x3_1 8
       have p243 : 0 ≤ (2 : Int) := (by omega)
       have q243 : 2 < (x3_1.length : Int) := ad_
       obtain ⟨ad243, e243, hx243_0⟩ := Kd.at_int (Kd.R_reads' HO_3.out).2.2 2 p243 q243
       obtain rfl : (⟨go5, 0, none⟩ : Addr) = ad243 := (by injection e243)
       (first | simp only [add_plain] at hx243_0 | simp only [add_at] at hx243_0 | simp only [Addr.add, Nat.zero_add] at hx243_0 | skip)
       have qi243 : (2 < x3_1.length) = True := eq_true (by omega)
       (try rw [show ((2 : Int)).toNat = 2 from rfl] at hx243_0)
       replace p243 := eq_true p243
       replace q243 := eq_true q243
       have qa244 : ((3 : Int) < (8 : Int)) = True := qa_ x3_1 8
       have p244 : 0 ≤ (3 : Int) := (by omega)
       have q244 : 3 < (x3_1.length : Int) := ad_
       obtain ⟨ad244, e244, hx244_0⟩ := Kd.at_int (Kd.R_reads' HO_3.out).2.2 3 p244 q244
       obtain rfl : (⟨go5, 0, none⟩ : Addr) = ad244 := (by injection e244)
       (first | simp only [add_plain] at hx244_0 | simp only [add_at] at hx244_0 | simp only [Addr.add, Nat.zero_add] at hx244_0 | skip)
       have qi244 : (3 < x3_1.length) = True := eq_true (by omega)
       (try rw [show ((3 : Int)).toNat = 3 from rfl] at hx244_0)
       replace p244 := eq_true p244
       replace q244 := eq_true q244
       have qa245 : ((4 : Int) < (8 : Int)) = True := qa_ x3_1 8
       have p245 : 0 ≤ (4 : Int) := (by omega)
       have q245 : 4 < (x3_1.length : Int) := ad_
       obtain ⟨ad245, e245, hx245_0⟩ := Kd.at_int (Kd.R_reads' HO_3.out).2.2 4 p245 q245
       obtain rfl : (⟨go5, 0, none⟩ : Addr) = ad245 := (by injection e245)
       (first | simp only [add_plain] at hx245_0 | simp only [add_at] at hx245_0 | simp only [Addr.add, Nat.zero_add] at hx245_0 | skip)
       have qi245 : (4 < x3_1.length) = True := eq_true (by omega)
       (try rw [show ((4 : Int)).toNat = 4 from rfl] at hx245_0)
       replace p245 := eq_true p245
       replace q245 := eq_true q245
       have qa246 : ((5 : Int) < (8 : Int)) = True := qa_ x3_1 8
       have p246 : 0 ≤ (5 : Int) := (by omega)
       have q246 : 5 < (x3_1.length : Int) := ad_
       obtain ⟨ad246, e246, hx246_0⟩ := Kd.at_int (Kd.R_reads' HO_3.out).2.2 5 p246 q246
       obtain rfl : (⟨go5, 0, none⟩ : Addr) = ad246 := (by injection e246)
       (first | simp only [add_plain] at hx246_0 | simp only [add_at] at hx246_0 | simp only [Addr.add, Nat.zero_add] at hx246_0 | skip)
       have qi246 : (5 < x3_1.length) = True := eq_true (by omega)
       (try rw [show ((5 : Int)).toNat = 5 from rfl] at hx246_0)
       replace p246 := eq_true p246
       replace q246 := eq_true q246
       have qa247 : ((6 : Int) < (8 : Int)) = True := qa_ x3_1 8
       have p247 : 0 ≤ (6 : Int) := (by omega)
       have q247 : 6 < (x3_1.length : Int) := ad_
       obtain ⟨ad247, e247, hx247_0⟩ := Kd.at_int (Kd.R_reads' HO_3.out).2.2 6 p247 q247
       obtain rfl : (⟨go5, 0, none⟩ : Addr) = ad247 := (by injection e247)
       (first | simp only [add_plain] at hx247_0 | simp only [add_at] at hx247_0 | simp only [Addr.add, Nat.zero_add] at hx247_0 | skip)
       have qi247 : (6 < x3_1.length) = True := eq_true (by omega)
       (try rw [show ((6 : Int)).toNat = 6 from rfl] at hx247_0)
       replace p247 := eq_true p247
       replace q247 := eq_true q247
       have qa248 : ((7 : Int) < (8 : Int)) = True := qa_ x3_1 8
       have p248 : 0 ≤ (7 : Int) := (by omega)
       have q248 : 7 < (x3_1.length : Int) := ad_
       obtain ⟨ad248, e248, hx248_0⟩ := Kd.at_int (Kd.R_reads' HO_3.out).2.2 7 p248 q248
       obtain rfl : (⟨go5, 0, none⟩ : Addr) = ad248 := (by injection e248)
       (first | simp only [add_plain] at hx248_0 | simp only [add_at] at hx248_0 | simp only [Addr.add, Nat.zero_add] at hx248_0 | skip)
       have qi248 : (7 < x3_1.length) = True := eq_true (by omega)
       (try rw [show ((7 : Int)).toNat = 7 from rfl] at hx248_0)
       replace p248 := eq_true p248
       replace q248 := eq_true q248
       refine start_ (n := 24) (S := fun w' => w'.cell? ⟨go5, 0, none⟩ = some (.int .u32 (rd x3_1 0)) ∧ w'.cell? ⟨go5, 1, none⟩ = some (.int .u32 (rd x3_1 1)) ∧ w'.cell? ⟨go5, 2, none⟩ = some (.int .u32 (rd x3_1 2)) ∧ w'.cell? ⟨go5, 3, none⟩ = some (.int .u32 (rd x3_1 3)) ∧ w'.cell? ⟨go5, 4, none⟩ = some (.int .u32 (rd x3_1 4)) ∧ w'.cell? ⟨go5, 5, none⟩ = some (.int .u32 (rd x3_1 5)) ∧ w'.cell? ⟨go5, 6, none⟩ = some (.int .u32 (rd x3_1 6)) ∧ w'.cell? ⟨go5, 7, none⟩ = some (.int .u32 (rd x3_1 7))) (ds := []) #[false, false, false, false, false, false, false, false, false, false, false, false, false, false, false, false, false, false, false, false, false, false, false, false] (by kernel_rfl) rfl rfl ⟨hx241_0, hx242_0, hx243_0, hx244_0, hx245_0, hx246_0, hx247_0, hx248_0⟩ (fun hHeld => ?_); refine with_tabW palaverref02_Sum.tab16 palaverref02_Sum.bits16 (fun HT_ HW_ => ?_)
       generalize wr.drew = w83 at HO_3 HO_4 HO_7 HB hx241_0 hx242_0 hx243_0 hx244_0 hx245_0 hx246_0 hx247_0 hx248_0 hHeld ⊢
       refine runs_ [(0, some 134), (2, some 136), (4, some 138), (6, some 140), (8, some 142), (10, some 144), (12, some 146), (14, some 148)] ?_
       iterate 8 (refine pL_ ?_)
       refine runsE_ ?_
       refine take_ (i := 1) (N := some 135) (v := ?_) (a' := ?_) #[true, true, true, false, true, false, true, false, true, false, true, false, true, false, true, false, false, false, false, false, false, false, false, false] rfl rfl (take_ofW HT_.out HW_.out (by kernel_rfl)) (fun _ _ _ h => h) (Or.inl ⟨by rfl, ?_⟩) hHeld ?_ ?_
       rotate_left
       ·rintro w' ⟨s0, s1, s2, s3, s4, s5, s6, s7⟩
        go_simp
        with_reducible rfl
       rotate_left
       ·simp only [pr_]
        rfl
       refine pure_ (i := 16) (N := some 11) (v := ?_) (a' := ?_) #[true, true, true, false, true, false, true, false, true, false, true, false, true, false, true, false, true, false, false, false, false, false, false, false] rfl rfl (any_of HT_.out (by kernel_rfl)) (fun _ _ _ h => h) (Or.inl ⟨by rfl, ?_⟩) ?_ ?_
       rotate_left
       ·intro w'
        go_simp
        with_reducible rfl
       rotate_left
       ·simp only [pr_]
        rfl
       refine take_ (i := 3) (N := some 137) (v := ?_) (a' := ?_) #[true, true, true, true, true, false, true, false, true, false, true, false, true, false, true, false, true, false, false, false, false, false, false, false] rfl rfl (take_ofW HT_.out HW_.out (by kernel_rfl)) (fun _ _ _ h => h) (Or.inl ⟨by rfl, ?_⟩) hHeld ?_ ?_
       rotate_left
       ·rintro w' ⟨s0, s1, s2, s3, s4, s5, s6, s7⟩
        go_simp
        with_reducible rfl
       rotate_left
       ·simp only [pr_]
        rfl
       refine pure_ (i := 17) (N := some 12) (v := ?_) (a' := ?_) #[true, true, true, true, true, false, true, false, true, false, true, false, true, false, true, false, true, true, false, false, false, false, false, false] rfl rfl (any_of HT_.out (by kernel_rfl)) (fun _ _ _ h => h) (Or.inl ⟨by rfl, ?_⟩) ?_ ?_
       rotate_left
       ·intro w'
        go_simp
        with_reducible rfl
       rotate_left
       ·simp only [pr_]
        rfl
       refine take_ (i := 5) (N := some 139) (v := ?_) (a' := ?_) #[true, true, true, true, true, true, true, false, true, false, true, false, true, false, true, false, true, true, false, false, false, false, false, false] rfl rfl (take_ofW HT_.out HW_.out (by kernel_rfl)) (fun _ _ _ h => h) (Or.inl ⟨by rfl, ?_⟩) hHeld ?_ ?_
       rotate_left
       ·rintro w' ⟨s0, s1, s2, s3, s4, s5, s6, s7⟩
        go_simp
        with_reducible rfl
       rotate_left
       ·simp only [pr_]
        rfl
       refine pure_ (i := 18) (N := some 13) (v := ?_) (a' := ?_) #[true, true, true, true, true, true, true, false, true, false, true, false, true, false, true, false, true, true, true, false, false, false, false, false] rfl rfl (any_of HT_.out (by kernel_rfl)) (fun _ _ _ h => h) (Or.inl ⟨by rfl, ?_⟩) ?_ ?_
       rotate_left
       ·intro w'
        go_simp
        with_reducible rfl
       rotate_left
       ·simp only [pr_]
        rfl
       refine take_ (i := 7) (N := some 141) (v := ?_) (a' := ?_) #[true, true, true, true, true, true, true, true, true, false, true, false, true, false, true, false, true, true, true, false, false, false, false, false] rfl rfl (take_ofW HT_.out HW_.out (by kernel_rfl)) (fun _ _ _ h => h) (Or.inl ⟨by rfl, ?_⟩) hHeld ?_ ?_
       rotate_left
       ·rintro w' ⟨s0, s1, s2, s3, s4, s5, s6, s7⟩
        go_simp
        with_reducible rfl
       rotate_left
       ·simp only [pr_]
        rfl
       refine pure_ (i := 19) (N := some 14) (v := ?_) (a' := ?_) #[true, true, true, true, true, true, true, true, true, false, true, false, true, false, true, false, true, true, true, true, false, false, false, false] rfl rfl (any_of HT_.out (by kernel_rfl)) (fun _ _ _ h => h) (Or.inl ⟨by rfl, ?_⟩) ?_ ?_
       rotate_left
       ·intro w'
        go_simp
        with_reducible rfl
       rotate_left
       ·simp only [pr_]
        rfl
       refine take_ (i := 9) (N := some 143) (v := ?_) (a' := ?_) #[true, true, true, true, true, true, true, true, true, true, true, false, true, false, true, false, true, true, true, true, false, false, false, false] rfl rfl (take_ofW HT_.out HW_.out (by kernel_rfl)) (fun _ _ _ h => h) (Or.inl ⟨by rfl, ?_⟩) hHeld ?_ ?_
       rotate_left
       ·rintro w' ⟨s0, s1, s2, s3, s4, s5, s6, s7⟩
        go_simp
        with_reducible rfl
       rotate_left
       ·simp only [pr_]
        rfl
       refine pure_ (i := 20) (N := some 15) (v := ?_) (a' := ?_) #[true, true, true, true, true, true, true, true, true, true, true, false, true, false, true, false, true, true, true, true, true, false, false, false] rfl rfl (any_of HT_.out (by kernel_rfl)) (fun _ _ _ h => h) (Or.inl ⟨by rfl, ?_⟩) ?_ ?_
       rotate_left
       ·intro w'
        go_simp
        with_reducible rfl
       rotate_left
       ·simp only [pr_]
        rfl
       refine take_ (i := 11) (N := some 145) (v := ?_) (a' := ?_) #[true, true, true, true, true, true, true, true, true, true, true, true, true, false, true, false, true, true, true, true, true, false, false, false] rfl rfl (take_ofW HT_.out HW_.out (by kernel_rfl)) (fun _ _ _ h => h) (Or.inl ⟨by rfl, ?_⟩) hHeld ?_ ?_
       rotate_left
       ·rintro w' ⟨s0, s1, s2, s3, s4, s5, s6, s7⟩
        go_simp
        with_reducible rfl
       rotate_left
       ·simp only [pr_]
        rfl
       refine pure_ (i := 21) (N := some 16) (v := ?_) (a' := ?_) #[true, true, true, true, true, true, true, true, true, true, true, true, true, false, true, false, true, true, true, true, true, true, false, false] rfl rfl (any_of HT_.out (by kernel_rfl)) (fun _ _ _ h => h) (Or.inl ⟨by rfl, ?_⟩) ?_ ?_
       rotate_left
       ·intro w'
        go_simp
        with_reducible rfl
       rotate_left
       ·simp only [pr_]
        rfl
       refine take_ (i := 13) (N := some 147) (v := ?_) (a' := ?_) #[true, true, true, true, true, true, true, true, true, true, true, true, true, true, true, false, true, true, true, true, true, true, false, false] rfl rfl (take_ofW HT_.out HW_.out (by kernel_rfl)) (fun _ _ _ h => h) (Or.inl ⟨by rfl, ?_⟩) hHeld ?_ ?_
       rotate_left
       ·rintro w' ⟨s0, s1, s2, s3, s4, s5, s6, s7⟩
        go_simp
        with_reducible rfl
       rotate_left
       ·simp only [pr_]
        rfl
       refine pure_ (i := 22) (N := some 17) (v := ?_) (a' := ?_) #[true, true, true, true, true, true, true, true, true, true, true, true, true, true, true, false, true, true, true, true, true, true, true, false] rfl rfl (any_of HT_.out (by kernel_rfl)) (fun _ _ _ h => h) (Or.inl ⟨by rfl, ?_⟩) ?_ ?_
       rotate_left
       ·intro w'
        go_simp
        with_reducible rfl
       rotate_left
       ·simp only [pr_]
        rfl
       refine take_ (i := 15) (N := some 149) (v := ?_) (a' := ?_) #[true, true, true, true, true, true, true, true, true, true, true, true, true, true, true, true, true, true, true, true, true, true, true, false] rfl rfl (take_ofW HT_.out HW_.out (by kernel_rfl)) (fun _ _ _ h => h) (Or.inl ⟨by rfl, ?_⟩) hHeld ?_ ?_
       rotate_left
       ·rintro w' ⟨s0, s1, s2, s3, s4, s5, s6, s7⟩
        go_simp
        with_reducible rfl
       rotate_left
       ·simp only [pr_]
        rfl
       refine pure_ (i := 23) (N := some 18) (v := ?_) (a' := ?_) #[true, true, true, true, true, true, true, true, true, true, true, true, true, true, true, true, true, true, true, true, true, true, true, true] rfl rfl (any_of HT_.out (by kernel_rfl)) (fun _ _ _ h => h) (Or.inl ⟨by rfl, ?_⟩) ?_ ?_
       rotate_left
       ·intro w'
        go_simp
        with_reducible rfl
       rotate_left
       ·simp only [pr_]
        rfl
       refine done_ (done_of HT_.out (by kernel_rfl)) ?_
       try go_wp2
       go_loopg [11, 12, 13, 14, 15, 16, 17, 18, 19] k2 (fun kq v11 v12 v13 v14 v15 v16 v17 v18 v19 w' => ∃ (x11_3 : Int) (x12_3 : Int) (x13_3 : Int) (x14_3 : Int) (x15_3 : Int) (x16_3 : Int) (x17_3 : Int) (x18_3 : Int) (x19_3 : Int), v11 = .int .u32 x11_3 ∧ v12 = .int .u32 x12_3 ∧ v13 = .int .u32 x13_3 ∧ v14 = .int .u32 x14_3 ∧ v15 = .int .u32 x15_3 ∧ v16 = .int .u32 x16_3 ∧ v17 = .int .u32 x17_3 ∧ v18 = .int .u32 x18_3 ∧ v19 = .int .i64 x19_3 ∧ Aside0 (palaverref02_Sum.l2 kq x3_1 x4_1 t223 x6_1 x7_2 x11_3 x12_3 x13_3 x14_3 x15_3 x16_3 x17_3 x18_3 x19_3 = some r) ∧ Aside0 (kq ≤ k2) ∧ Aside0 (Kd.R (Kd.int .u32) 109 w' w.heap.size (fun _ => True) (.slice (some ⟨go5, 0, none⟩) x3_1.length co5) x3_1) ∧ Aside0 (Kd.R (Kd.int .u32) 121 w' w.heap.size (fun k_ => some k_ ≠ (v225 : Value).ownBlock) (.slice (some ⟨go9, 0, none⟩) x4_1.length co9) x4_1) ∧ Aside0 (Kd.R (Kd.int .u32) 121 w' w.heap.size (fun k_ => some k_ ≠ ((.slice (some ⟨go9, 0, none⟩) x4_1.length co9) : Value).ownBlock) v225 x7_2) ∧ Aside0 (Below w.heap.size w w'))
       case atStart => exact ⟨(rd x3_1 0), (rd x3_1 1), (rd x3_1 2), (rd x3_1 3), (rd x3_1 4), (rd x3_1 5), (rd x3_1 6), (rd x3_1 7), (0), vq_, vq_, vq_, vq_, vq_, vq_, vq_, vq_, vq_, H', ⟨Nat.le_refl _⟩, ⟨by (try simp only [hl3_1]); (try simp only [hl4_1]); refine mv_ ?_; exact HO_3.out⟩, ⟨by (try simp only [hl3_1]); (try simp only [hl4_1]); refine mv_ ?_; exact HO_4.out⟩, ⟨by (try simp only [hl3_1]); (try simp only [hl4_1]); refine mv_ ?_; exact HO_7.out⟩, ⟨bl_⟩⟩
       case round =>
        clear H'
        (try clear c2); (try clear p2); (try clear q2); (try clear hx2); (try clear qi2); (try clear c4); (try clear c5); (try clear c6); (try clear p6); (try clear q6); (try clear hx6); (try clear hf6); (try clear c7); (try clear c8); (try clear hx22); (try clear p23); (try clear q23); (try clear hx23); (try clear p24); (try clear q24); (try clear hx24); (try clear qi24); (try clear c25); (try clear c25b0); (try clear c25b7); (try clear c49); (try clear c51); (try clear c52); (try clear c56); (try clear c57); (try clear c61); (try clear c62); (try clear c64); (try clear p64); (try clear c65); (try clear c66); (try clear c67); (try clear p68); (try clear q68); (try clear hx68); (try clear hf68); (try clear c74); (try clear c74b0); (try clear c74b1); (try clear c75); (try clear c75b0); (try clear c75b1); (try clear c75b7); (try clear c75b8); (try clear c76); (try clear c76b0); (try clear c76b1); (try clear c76b7); (try clear c76b8); (try clear c77); (try clear c77b0); (try clear c77b1); (try clear c77b7); (try clear c77b8); (try clear c78); (try clear c78b0); (try clear c78b1); (try clear c78b7); (try clear c78b8); (try clear c79); (try clear c79b0); (try clear c79b1); (try clear c79b7); (try clear c79b8); (try clear c80); (try clear c80b0); (try clear c80b1); (try clear c80b7); (try clear c80b8); (try clear c81); (try clear c81b0); (try clear c81b1); (try clear c81b7); (try clear c81b8); (try clear c82); (try clear c82b0); (try clear c82b1); (try clear c82b7); (try clear c82b8); (try clear hx228_0); (try clear hx230_0); (try clear hx232_0); (try clear hx233_0); (try clear hx235_0); (try clear hx237_0); (try clear hx238_0); (try clear hx239_0); (try clear hx241_0); (try clear hx242_0); (try clear hx243_0); (try clear hx244_0); (try clear hx245_0); (try clear hx246_0); (try clear hx247_0); (try clear hx248_0); (try clear hx68_0); (try clear p238); (try clear p239); (try clear p241); (try clear p242); (try clear p243); (try clear p244); (try clear p245); (try clear p246); (try clear p247); (try clear p248); (try clear p68); (try clear q238); (try clear q239); (try clear q241); (try clear q242); (try clear q243); (try clear q244); (try clear q245); (try clear q246); (try clear q247); (try clear q248); (try clear q68)
        obtain ⟨x11_3, x12_3, x13_3, x14_3, x15_3, x16_3, x17_3, x18_3, x19_3, rfl, rfl, rfl, rfl, rfl, rfl, rfl, rfl, rfl, HA, HK3, HO_3, HO_4, HO_7, HB⟩ := hrel
        cases gk with
        | zero => exact absurd HA.out (by simp [palaverref02_Sum.l2])
        | succ k3 =>
         have H := HA.out
         clear HA
         simp only [palaverref02_Sum.l2] at H
         by_cases c84 : x19_3 < 64
         ·refine Nonempty.elim ?gc84p id
          letI i_ : type_of% ?gc84p := ⟨by
          rw [if_pos c84] at H
          have c84b0 : decide (x19_3 < 64) = true := decide_eq_true c84
          (try (have c84b7 := c84b0; simp only [hl3_1, hl4_1] at c84b7))
          clear c84
          revert H; refine oa_ fun t249 A85 => oa_ fun t250 A86 => oa_ fun t251 A87 H => ?_
          by_cases c88 : x4_1.length = 64
          ·rw [if_pos c88] at H
           have c88b0 := eq_true c88
           have c88b1 : decide (x4_1.length = 64) = true := decide_eq_true c88
           clear c88
           revert H; refine nd_ fun c89 c89b0 => nd_ fun c90 c90b0 => ne_ fun c91 c91b0 c91b1 => nd_ fun c92 c92b0 => oa_ fun t254 A93 => oa_ fun t255 A94 => oa_ fun t256 A95 H => ?_
           (try (have c89b7 := c89b0; simp only [hl3_1, hl4_1] at c89b7))
           (try (have c90b7 := c90b0; simp only [hl3_1, hl4_1] at c90b7))
           (try (have c92b7 := c92b0; simp only [hl3_1, hl4_1] at c92b7))
           clear c89 c90 c91 c92
           have H' := Aside0.mk H
           clear H
           try go_wp2_with (first | ((with_reducible refine gate_callee (f := 82) rfl ?_); refine gL_ 155 Tryd.func82 #[.int .u32 x15_3, .int .u32 6] ?_; (with_reducible refine (palaverref02_turn.calls x15_3 6 t249 _ A85.out).mono ?_); rintro e w' ⟨rfl, ⟨nd, rfl⟩⟩; refine ⟨_, rfl, ?_⟩) | ((with_reducible refine gate_callee (f := 82) rfl ?_); refine gL_ 157 Tryd.func82 #[.int .u32 x15_3, .int .u32 11] ?_; (with_reducible refine (palaverref02_turn.calls x15_3 11 t250 _ A86.out).mono ?_); rintro e w' ⟨rfl, ⟨nd, rfl⟩⟩; refine ⟨_, rfl, ?_⟩) | ((with_reducible refine gate_callee (f := 82) rfl ?_); refine gL_ 160 Tryd.func82 #[.int .u32 x15_3, .int .u32 25] ?_; (with_reducible refine (palaverref02_turn.calls x15_3 25 t251 _ A87.out).mono ?_); rintro e w' ⟨rfl, ⟨nd, rfl⟩⟩; refine ⟨_, rfl, ?_⟩))
           (try (rw [drewN_self wr]; generalize hq_ : World.drewN wr _ = wr; have n0_ : Aside0 (Kd.R (Kd.int .u32) 109 wr w.heap.size (fun _ => True) (.slice (some ⟨go5, 0, none⟩) x3_1.length co5) x3_1) := ⟨by rw [← hq_]; exact (mv_ HO_3.out)⟩; have n1_ : Aside0 (Kd.R (Kd.int .u32) 121 wr w.heap.size (fun k_ => some k_ ≠ (v225 : Value).ownBlock) (.slice (some ⟨go9, 0, none⟩) x4_1.length co9) x4_1) := ⟨by rw [← hq_]; exact (mv_ HO_4.out)⟩; have n2_ : Aside0 (Kd.R (Kd.int .u32) 121 wr w.heap.size (fun k_ => some k_ ≠ (.slice (some ⟨go9, 0, none⟩) x4_1.length co9 : Value).ownBlock) v225 x7_2) := ⟨by rw [← hq_]; exact (mv_ HO_7.out)⟩; have n3_ : Aside0 (Below w.heap.size w wr) := ⟨by rw [← hq_]; exact bl_⟩; clear HO_3 HO_4 HO_7 HB hq_; have HO_3 := n0_; have HO_4 := n1_; have HO_7 := n2_; have HB := n3_; clear n0_ n1_ n2_ n3_))
           replace HB := Aside0.mk (below_drew1 HB.out)
           replace HO_7 := Aside0.mk (Kd.R_drew HO_7.out)
           replace HO_4 := Aside0.mk (Kd.R_drew HO_4.out)
           replace HO_3 := Aside0.mk (Kd.R_drew HO_3.out)
           have qa252 : ((x19_3 : Int) < (64 : Int)) = True := qa_ x4_1 64
           have p252 : 0 ≤ (x19_3 : Int) := ad_
           have q252 : x19_3 < (x4_1.length : Int) := ad_
           obtain ⟨ad252, e252, hx252_0⟩ := Kd.at_int (Kd.R_reads' HO_4.out).2.2 x19_3 p252 q252
           obtain rfl : (⟨go9, 0, none⟩ : Addr) = ad252 := (by injection e252)
           (first | simp only [add_plain] at hx252_0 | simp only [add_at] at hx252_0 | simp only [Addr.add, Nat.zero_add] at hx252_0 | skip)
           replace p252 := eq_true p252
           replace q252 := eq_true q252
           obtain ⟨Ao97, co97, eo97⟩ := Kd.R_slice HO_7.out
           (first | subst eo97 | (injection eo97 with f1_ f2_ f3_; have f4_ := f1_.symm; have f5_ := f3_.symm; clear f1_ f2_ f3_; subst f4_; subst f5_))
           have qa253 : ((x19_3 : Int) < (64 : Int)) = True := qa_ x7_2 64
           have p253 : 0 ≤ (x19_3 : Int) := ad_
           have q253 : x19_3 < (x7_2.length : Int) := ad_
           obtain ⟨ad253, e253, hx253_0⟩ := Kd.at_int (Kd.R_reads' HO_7.out).2.2 x19_3 p253 q253
           cases e253
           replace p253 := eq_true p253
           replace q253 := eq_true q253
           refine start_ (n := 14) (S := fun w' => w'.cell? ⟨go9, (x19_3).toNat, none⟩ = some (.int .u32 (rd x4_1 x19_3)) ∧ w'.cell? (ad253.add (x19_3).toNat) = some (.int .u32 (rd x7_2 x19_3))) (ds := []) #[false, false, false, false, false, false, false, false, false, false, false, false, false, false] (by kernel_rfl) rfl rfl ⟨hx252_0, hx253_0⟩ (fun hHeld => ?_); refine with_tabW palaverref02_Sum.tab22 palaverref02_Sum.bits22 (fun HT_ HW_ => ?_)
           generalize wr.drew = w96 at HO_3 HO_4 HO_7 HB hx252_0 hx253_0 hHeld ⊢
           refine runs_ [(0, some 170), (1, some 171), (2, some 172), (3, some 173), (4, some 174), (5, some 175), (6, some 176), (9, some 179), (10, some 180)] ?_
           iterate 9 (refine pL_ ?_)
           refine runsE_ ?_
           refine take_ (i := 7) (N := some 177) (v := ?_) (a' := ?_) #[true, true, true, true, true, true, true, true, false, true, true, false, false, false] rfl rfl (take_ofW HT_.out HW_.out (by kernel_rfl)) (fun _ _ _ h => h) (Or.inl ⟨by rfl, ?_⟩) hHeld ?_ ?_
           rotate_left
           ·rintro w' ⟨s0, s1⟩
            go_simp
            with_reducible rfl
           rotate_left
           ·simp only [pr_]
            rfl
           refine pure_ (i := 8) (N := some 178) (v := ?_) (a' := ?_) #[true, true, true, true, true, true, true, true, true, true, true, false, false, false] rfl rfl (any_of HT_.out (by kernel_rfl)) (fun _ _ _ h => h) (Or.inl ⟨by rfl, ?_⟩) ?_ ?_
           rotate_left
           ·intro w'
            go_simp
            with_reducible rfl
           rotate_left
           ·simp only [pr_]
            rfl
           refine take_ (i := 11) (N := some 181) (v := ?_) (a' := ?_) #[true, true, true, true, true, true, true, true, true, true, true, true, false, false] rfl rfl (take_ofW HT_.out HW_.out (by kernel_rfl)) (fun _ _ _ h => h) (Or.inl ⟨by rfl, ?_⟩) hHeld ?_ ?_
           rotate_left
           ·rintro w' ⟨s0, s1⟩
            go_simp
            with_reducible rfl
           rotate_left
           ·simp only [pr_]
            rfl
           refine runs_ [(12, some 182), (13, some 22)] ?_
           iterate 2 (refine pL_ ?_)
           refine runsE_ ?_
           refine done_ (done_of HT_.out (by kernel_rfl)) ?_
           try go_wp2_with (first | ((with_reducible refine gate_callee (f := 82) rfl ?_); refine gL_ 184 Tryd.func82 #[.int .u32 x11_3, .int .u32 2] ?_; (with_reducible refine (palaverref02_turn.calls x11_3 2 t254 _ A93.out).mono ?_); rintro e w' ⟨rfl, ⟨nd, rfl⟩⟩; refine ⟨_, rfl, ?_⟩) | ((with_reducible refine gate_callee (f := 82) rfl ?_); refine gL_ 186 Tryd.func82 #[.int .u32 x11_3, .int .u32 13] ?_; (with_reducible refine (palaverref02_turn.calls x11_3 13 t255 _ A94.out).mono ?_); rintro e w' ⟨rfl, ⟨nd, rfl⟩⟩; refine ⟨_, rfl, ?_⟩) | ((with_reducible refine gate_callee (f := 82) rfl ?_); refine gL_ 189 Tryd.func82 #[.int .u32 x11_3, .int .u32 22] ?_; (with_reducible refine (palaverref02_turn.calls x11_3 22 t256 _ A95.out).mono ?_); rintro e w' ⟨rfl, ⟨nd, rfl⟩⟩; refine ⟨_, rfl, ?_⟩))
           go_roundg k3
           case measure => have := HK1.out; have := HK2.out; have := HK3.out; omega
           case rel => exact ⟨((((((x18_3 + (Go.bits .xor .u32 (Go.bits .xor .u32 t249 t250) t251)) + (Go.bits .xor .u32 (Go.bits .and .u32 x15_3 x16_3) (Go.bits .and .u32 (Go.bits .xor .u32 4294967295 x15_3) x17_3))) + (rd x4_1 x19_3)) + (rd x7_2 x19_3)) + ((Go.bits .xor .u32 (Go.bits .xor .u32 t254 t255) t256) + (Go.bits .xor .u32 (Go.bits .xor .u32 (Go.bits .and .u32 x11_3 x12_3) (Go.bits .and .u32 x11_3 x13_3)) (Go.bits .and .u32 x12_3 x13_3)))) % 4294967296), (x11_3), (x12_3), (x13_3), ((x14_3 + ((((x18_3 + (Go.bits .xor .u32 (Go.bits .xor .u32 t249 t250) t251)) + (Go.bits .xor .u32 (Go.bits .and .u32 x15_3 x16_3) (Go.bits .and .u32 (Go.bits .xor .u32 4294967295 x15_3) x17_3))) + (rd x4_1 x19_3)) + (rd x7_2 x19_3))) % 4294967296), (x15_3), (x16_3), (x17_3), (wrap64 (x19_3 + 1)), vq_, vq_, vq_, vq_, vq_, vq_, vq_, vq_, vq_, H', ⟨by have := HK1.out; have := HK2.out; have := HK3.out; omega⟩, ⟨by (try simp only [hl3_1]); (try simp only [hl4_1]); refine mv_ ?_; exact HO_3.out⟩, ⟨by (try simp only [hl3_1]); (try simp only [hl4_1]); refine mv_ ?_; exact HO_4.out⟩, ⟨by (try simp only [hl3_1]); (try simp only [hl4_1]); refine mv_ ?_; exact HO_7.out⟩, ⟨bl_⟩⟩
          ·rw [if_neg c88] at H
           exact absurd H (by simp)
          ⟩
          exact inferInstanceAs _
         refine Nonempty.elim ?gc84n id
         letI i_ : type_of% ?gc84n := ⟨by
         rw [if_neg c84] at H
         have c84b0 : decide (x19_3 < 64) = false := decide_eq_false c84
         (try (have c84b7 := c84b0; simp only [hl3_1, hl4_1] at c84b7))
         clear c84
         revert H; refine oy_ fun y257 Ny257 H => ?_
         by_cases c98 : y257.length = 8
         ·rw [if_pos c98] at H
          have c98b0 := eq_true c98
          have c98b1 : decide (y257.length = 8) = true := decide_eq_true c98
          clear c98
          revert H; refine nd_ fun c99 c99b0 H => ?_
          have c99b1 : decide (0 < y257.length) = true := decide_eq_true (by omega)
          (try (have c99b7 := c99b0; simp only [hl3_1, hl4_1] at c99b7))
          (try (have c99b8 := c99b1; simp only [hl3_1, hl4_1] at c99b8))
          clear c99
          generalize e_ : ([x11_3, x12_3, x13_3, x14_3, x15_3, x16_3, x17_3, x18_3] : List Int) = y260 at H
          have Ny260 := Aside0.mk e_.symm
          clear e_
          have H' := Aside0.mk H
          clear H
          go_wp2_with (first | ((with_reducible refine gate_dst (N := 26) rfl ?_); refine R_arr (Value.int .u32) (fun _ => rfl) _ 109 ?hg (N := 26) ?hd (List.replicate 8 0) ?hr (Below.refl _ _) (Nat.le_refl _) (by decide) ?_; (case hd => rfl); (case hg => rfl); (case hr => exact gr_); intro v258 w101 ho102 hb hg_ hnew_; clear hg_ hnew_; (first | rw [← Ny257.out] at ho102 | (simp only [Int.reduceToNat] at ho102; rw [← Ny257.out] at ho102)); have HO259 := Aside0.mk (Kd.R_lower (Kd.R_new' ho102 (Kd.R_lt (mv_ HO_3.out))) (below_size bl_)); replace HB := Aside0.mk (below_step bl_ hb); replace HO_7 := Aside0.mk (Kd.R_below (mv_ HO_7.out) hb); replace HO_4 := Aside0.mk (Kd.R_below (mv_ HO_4.out) hb); replace HO_3 := Aside0.mk (Kd.R_elder' (mv_ HO_3.out) (Kd.R_base ho102) hb); clear hb ho102; have qa100 : ((0 : Int) < (8 : Int)) = True := qa_ y257 8; have p100 : 0 ≤ (0 : Int) := (by omega); have q100 : (0 : Int) < ((y257.length : Int) : Int) := ad_; have qi100 : (0 < y257.length) = True := eq_true (by omega); obtain ⟨go100, co100, eo100, gb100, gl100, cl100, HG100⟩ := Kd.R_form HO259.out (by omega); (first | cases eo100 | (injection eo100 with ea_ en_ ec_; (first | subst ea_ | (injection ea_ with ea_; subst ea_)); subst ec_; clear en_)); have GB100 := Aside0.mk gb100; have GG100 := Aside0.mk HG100; clear gb100 gl100 HG100; obtain ⟨hx100_0, hf100_0⟩ := Kd.R_celln 0 HO259.out (0 : Int) p100 q100; (try rw [show ((0 : Int)).toNat = 0 from rfl] at hx100_0); (try simp only [Nat.reduceMul, Nat.zero_mul, Nat.zero_add, Nat.reduceAdd] at hx100_0); (try rw [show ((0 : Int)).toNat = 0 from rfl] at hf100_0); (try simp only [Nat.reduceMul, Nat.zero_mul, Nat.zero_add, Nat.reduceAdd] at hf100_0); replace p100 := eq_true p100; replace q100 := eq_true q100; have n_ := Aside0.mk (Kd.R_mono (ok' := (fun k_ => some k_ ≠ (.slice (some ⟨go5, 0, none⟩) x3_1.length co5 : Value).ownBlock)) HO259.out (fun k_ hk => hk.2)); clear HO259; have HO259 := n_; clear n_; have HP103 := R_whole (ys := [x11_3, x12_3, x13_3, x14_3, x15_3, x16_3, x17_3, x18_3]) HO259.out (by have e_ : y257.length = 8 := ad_; have e2_ := (Kd.R_reads' HO259.out).1; first | (rw [e_]; rfl) | (simp only [List.length_cons, List.length_nil]; omega))) | ((with_reducible refine gate_store (t := 109) (p := 26) rfl ?_); refine store_event (t := 109) (p := 26) (v := ?vo_w104) (w1 := (w101.setCells go100 0 (encs (Value.int .u32) [x11_3, x12_3, x13_3, x14_3, x15_3, x16_3, x17_3, x18_3]))) ?hg ?ho ?hn ?hr ?_; (case ho => rfl); (case hg => rfl); (case hn => rfl); (case hr => exact whole_run (ys := [x11_3, x12_3, x13_3, x14_3, x15_3, x16_3, x17_3, x18_3]) rfl rfl rfl (by kernel_rfl) HO259.out (by have e_ : y257.length = 8 := ad_; have e2_ := (Kd.R_reads' HO259.out).1; first | (rw [e_]; rfl) | (simp only [List.length_cons, List.length_nil]; omega))); intro w104 hw; have hg : w101.grownBy w104 (some go100) := (by rw [hw]; exact HP103.2); have hp_ : Kd.R (Kd.int .u32) 109 w104 w.heap.size (fun k_ => some k_ ≠ (.slice (some ⟨go5, 0, none⟩) x3_1.length co5 : Value).ownBlock) (.slice (some ⟨go100, 0, none⟩) y257.length co100) y260 := (by rw [hw, Ny260.out]; exact HP103.1); clear HP103; replace HB := Aside0.mk ((Below.grown HB.out hg (below_size HB.out) (fun k_ e_ => (Option.some.inj e_) ▸ GB100.out) : Below w.heap.size w w104)); replace HO_7 := Aside0.mk (Kd.R_over' (v := (.slice (some ⟨go100, 0, none⟩) y257.length co100)) (mv_ HO_7.out) (Kd.R_typed HO259.out) (by decide) hg); replace HO_4 := Aside0.mk (Kd.R_over' (v := (.slice (some ⟨go100, 0, none⟩) y257.length co100)) (mv_ HO_4.out) (Kd.R_typed HO259.out) (by decide) hg); replace HO259 := Aside0.mk (hp_); replace HO_3 := Aside0.mk (Kd.R_after (v := (.slice (some ⟨go100, 0, none⟩) y257.length co100)) (v1 := (.slice (some ⟨go100, 0, none⟩) y257.length co100)) (ok := (fun _ => True)) (mv_ HO_3.out) hg (.inl rfl)); clear hg hw hp_))
          go_loopg [27] k3 (fun kq v27 w' => ∃ (x3_4 : List Int) (x27_4 : Int), v27 = .int .i64 x27_4 ∧ Aside0 (palaverref02_Sum.l3 kq x3_4 x4_1 t223 x6_1 y260 x27_4 = some r) ∧ Aside0 (kq ≤ k3) ∧ Aside0 (Kd.R (Kd.int .u32) 109 w' w.heap.size (fun k_ => some k_ ≠ ((.slice (some ⟨go100, 0, none⟩) y257.length co100) : Value).ownBlock) (.slice (some ⟨go5, 0, none⟩) x3_1.length co5) x3_4) ∧ Aside0 (Kd.R (Kd.int .u32) 121 w' w.heap.size (fun _ => True) (.slice (some ⟨go9, 0, none⟩) x4_1.length co9) x4_1) ∧ Aside0 (Kd.R (Kd.int .u32) 109 w' w.heap.size (fun k_ => some k_ ≠ ((.slice (some ⟨go5, 0, none⟩) x3_1.length co5) : Value).ownBlock) (.slice (some ⟨go100, 0, none⟩) y257.length co100) y260) ∧ Aside0 (Below w.heap.size w w'))
          case atStart => exact ⟨(x3_1), (0), vq_, H', ⟨Nat.le_refl _⟩, ⟨by (try simp only [hl3_1]); (try simp only [hl4_1]); refine mv_ ?_; exact Kd.R_mono HO_3.out (fun _ hk => hk.2)⟩, ⟨by (try simp only [hl3_1]); (try simp only [hl4_1]); refine mv_ ?_; exact Kd.R_mono HO_4.out (fun _ hk => trivial)⟩, ⟨by (try simp only [hl3_1]); (try simp only [hl4_1]); refine mv_ ?_; exact HO259.out⟩, ⟨bl_⟩⟩
          case round =>
           clear H'
           (try clear p1); (try clear q1); (try clear hx1); (try clear qi1); (try clear hf1); (try clear c2); (try clear p2); (try clear q2); (try clear hx2); (try clear qi2); (try clear c4); (try clear c5); (try clear c6); (try clear p6); (try clear q6); (try clear hx6); (try clear hf6); (try clear c7); (try clear c8); (try clear c9); (try clear p10); (try clear q10); (try clear hx10); (try clear qi10); (try clear hf10); (try clear hx22); (try clear p23); (try clear q23); (try clear hx23); (try clear p24); (try clear q24); (try clear hx24); (try clear qi24); (try clear c25); (try clear c25b0); (try clear c25b7); (try clear p25); (try clear q25); (try clear hx25); (try clear c49); (try clear c51); (try clear c52); (try clear c56); (try clear c57); (try clear c61); (try clear c62); (try clear c64); (try clear p64); (try clear c65); (try clear c66); (try clear c67); (try clear p68); (try clear q68); (try clear hx68); (try clear hf68); (try clear c74); (try clear c74b0); (try clear c74b1); (try clear c75); (try clear c75b0); (try clear c75b1); (try clear c75b7); (try clear c75b8); (try clear c76); (try clear c76b0); (try clear c76b1); (try clear c76b7); (try clear c76b8); (try clear c77); (try clear c77b0); (try clear c77b1); (try clear c77b7); (try clear c77b8); (try clear c78); (try clear c78b0); (try clear c78b1); (try clear c78b7); (try clear c78b8); (try clear c79); (try clear c79b0); (try clear c79b1); (try clear c79b7); (try clear c79b8); (try clear c80); (try clear c80b0); (try clear c80b1); (try clear c80b7); (try clear c80b8); (try clear c81); (try clear c81b0); (try clear c81b1); (try clear c81b7); (try clear c81b8); (try clear c82); (try clear c82b0); (try clear c82b1); (try clear c82b7); (try clear c82b8); (try clear c84); (try clear c84b0); (try clear c84b7); (try clear c88); (try clear c88b0); (try clear c88b1); (try clear c89); (try clear c89b0); (try clear c89b7); (try clear c90); (try clear c90b0); (try clear c90b7); (try clear c91); (try clear c91b0); (try clear c91b1); (try clear c92); (try clear c92b0); (try clear c92b7); (try clear c98); (try clear c98b0); (try clear c98b1); (try clear c99); (try clear c99b0); (try clear c99b1); (try clear c99b7); (try clear c99b8); (try clear p100); (try clear q100); (try clear hx100); (try clear qi100); (try clear hf100); (try clear hx100_0); (try clear hx228_0); (try clear hx230_0); (try clear hx232_0); (try clear hx233_0); (try clear hx235_0); (try clear hx237_0); (try clear hx238_0); (try clear hx239_0); (try clear hx241_0); (try clear hx242_0); (try clear hx243_0); (try clear hx244_0); (try clear hx245_0); (try clear hx246_0); (try clear hx247_0); (try clear hx248_0); (try clear hx252_0); (try clear hx253_0); (try clear hx68_0); (try clear p100); (try clear p2); (try clear p23); (try clear p238); (try clear p239); (try clear p24); (try clear p241); (try clear p242); (try clear p243); (try clear p244); (try clear p245); (try clear p246); (try clear p247); (try clear p248); (try clear p252); (try clear p253); (try clear p6); (try clear p64); (try clear p68); (try clear q100); (try clear q2); (try clear q23); (try clear q238); (try clear q239); (try clear q24); (try clear q241); (try clear q242); (try clear q243); (try clear q244); (try clear q245); (try clear q246); (try clear q247); (try clear q248); (try clear q252); (try clear q253); (try clear q6); (try clear q68)
           obtain ⟨x3_4, x27_4, rfl, HA, HK4, HO_3, HO_4, HO_26, HB⟩ := hrel
           have hl3_4 := (Kd.R_reads' HO_3.out).1
           rw [hl3_4] at HO_3
           (try simp only [hl3_4])
           (try simp only [hl3_4] at HO_4)
           (try simp only [hl3_4] at HO_26)
           have hl26_4 := (Kd.R_reads' HO_26.out).1
           rw [hl26_4] at HO_26
           (try simp only [hl26_4])
           (try simp only [hl26_4] at HO_3)
           (try simp only [hl26_4] at HO_4)
           cases gk with
           | zero => exact absurd HA.out (by simp [palaverref02_Sum.l3])
           | succ k4 =>
            have H := HA.out
            clear HA
            simp only [palaverref02_Sum.l3] at H
            by_cases c105 : x27_4 < 8
            ·refine Nonempty.elim ?gc105p id
             letI i_ : type_of% ?gc105p := ⟨by
             rw [if_pos c105] at H
             have c105b0 : decide (x27_4 < 8) = true := decide_eq_true c105
             (try (have c105b7 := c105b0; simp only [hl3_1, hl4_1, hl3_4, hl26_4] at c105b7))
             clear c105
             by_cases c106 : x3_4.length = 8
             ·rw [if_pos c106] at H
              have c106b0 := eq_true c106
              have c106b1 : decide (x3_4.length = 8) = true := decide_eq_true c106
              clear c106
              revert H; refine nd_ fun c107 c107b0 => nd_ fun c108 c108b0 => ne_ fun c109 c109b0 c109b1 => nd_ fun c110 c110b0 H => ?_
              (try (have c107b7 := c107b0; simp only [hl3_1, hl4_1, hl3_4, hl26_4] at c107b7))
              (try (have c108b7 := c108b0; simp only [hl3_1, hl4_1, hl3_4, hl26_4] at c108b7))
              (try (have c110b7 := c110b0; simp only [hl3_1, hl4_1, hl3_4, hl26_4] at c110b7))
              clear c107 c108 c109 c110
              generalize e_ : (x3_4.set (x27_4 : Int).toNat (((rd x3_4 x27_4) + (rd y260 x27_4)) % 4294967296) : List Int) = y263 at H
              have Ny263 := Aside0.mk e_.symm
              clear e_
              have H' := Aside0.mk H
              clear H
              try go_wp2
              replace HB := Aside0.mk (below_drew1 HB.out)
              replace HO_26 := Aside0.mk (Kd.R_drew HO_26.out)
              replace HO_4 := Aside0.mk (Kd.R_drew HO_4.out)
              replace HO_3 := Aside0.mk (Kd.R_drew HO_3.out)
              have qa261 : ((x27_4 : Int) < (8 : Int)) = True := qa_ x3_4 8
              have p261 : 0 ≤ (x27_4 : Int) := ad_
              have q261 : x27_4 < (x3_4.length : Int) := ad_
              obtain ⟨ad261, e261, hx261_0⟩ := Kd.at_int (Kd.R_reads' HO_3.out).2.2 x27_4 p261 q261
              obtain rfl : (⟨go5, 0, none⟩ : Addr) = ad261 := (by injection e261)
              (first | simp only [add_plain] at hx261_0 | simp only [add_at] at hx261_0 | simp only [Addr.add, Nat.zero_add] at hx261_0 | skip)
              replace p261 := eq_true p261
              replace q261 := eq_true q261
              have qa262 : ((x27_4 : Int) < (8 : Int)) = True := qa_ y260 8
              have p262 : 0 ≤ (x27_4 : Int) := ad_
              have q262 : x27_4 < (y260.length : Int) := ad_
              obtain ⟨ad262, e262, hx262_0⟩ := Kd.at_int (Kd.R_reads' HO_26.out).2.2 x27_4 p262 q262
              obtain rfl : (⟨go100, 0, none⟩ : Addr) = ad262 := (by injection e262)
              (first | simp only [add_plain] at hx262_0 | simp only [add_at] at hx262_0 | simp only [Addr.add, Nat.zero_add] at hx262_0 | skip)
              replace p262 := eq_true p262
              replace q262 := eq_true q262
              have qa111 : ((x27_4 : Int) < (8 : Int)) = True := qa_ x3_4 8
              have p111 : 0 ≤ (x27_4 : Int) := ad_
              have q111 : (x27_4 : Int) < ((x3_4.length : Int) : Int) := ad_
              obtain ⟨hx111_0, hf111_0⟩ := Kd.R_celln 0 HO_3.out (x27_4 : Int) p111 q111
              replace p111 := eq_true p111
              replace q111 := eq_true q111
              have HP113 := Kd.R_putn HO_3.out (x27_4 : Int) (((rd x3_4 x27_4) + (rd y260 x27_4)) % 4294967296)
              rw [← Ny263.out] at HP113
              have HQ113 := Aside0.mk HP113
              clear HP113
              refine start_ (n := 10) (S := fun w' => w'.cell? ⟨go5, (x27_4).toNat, none⟩ = some (.int .u32 (rd x3_4 x27_4)) ∧ w'.cell? ⟨go100, (x27_4).toNat, none⟩ = some (.int .u32 (rd y260 x27_4))) (ds := [9]) #[false, false, false, false, false, false, false, false, false, false] (by kernel_rfl) rfl rfl ⟨hx261_0, hx262_0⟩ (fun hHeld => ?_); refine with_tabW palaverref02_Sum.tab38 palaverref02_Sum.bits38 (fun HT_ HW_ => ?_)
              generalize wr.drew = w112 at HO_3 HO_4 HO_26 HB HQ113 hf111_0 hx111_0 hx261_0 hx262_0 hHeld ⊢
              refine runs_ [(0, some 230), (1, some 231), (2, some 232), (4, some 234), (5, some 235)] ?_
              iterate 5 (refine pL_ ?_)
              refine runsE_ ?_
              refine runs_ [(3, some 233), (6, some 236)] ?_
              iterate 2 (refine takeL_ (v := ?_) (a' := ?_) rfl rfl (take_ofW HT_.out HW_.out (by kernel_rfl)) (Or.inl ⟨by rfl, ?_⟩) hHeld ?_ ?_ (fun _ _ _ h => h); rotate_left; (rintro w' ⟨s0, s1⟩; go_simp; with_reducible rfl); rotate_left; (simp only [pr_]; rfl))
              refine runsE_ ?_
              refine runs_ [(7, some 237), (8, some 238)] ?_
              iterate 2 (refine pL_ ?_)
              refine runsE_ ?_
              refine last_ (i := 9) (N := none) #[true, true, true, true, true, true, true, true, true, true] rfl rfl (one_of HT_.out (by kernel_rfl)) (by decide) (fun K hK => ?_)
              refine skip_set ⟨go5, (x27_4 : Int).toNat, none⟩ (.int .u32 (((rd x3_4 x27_4) + (rd y260 x27_4)) % 4294967296)) (by rfl) rfl ?_ ?_
              ·first | (go_simp; done) | (go_simp; rfl) | (go_simp; (try simp only [IntKind.wrap_u32, IntKind.wrap_u8]); refine congrArg (fun v_ => World.setCell _ _ (Value.int _ v_)) ?_; omega)
              refine hK.out _ _ ?_
              clear hK K
              refine done_ (done_of HT_.out (by kernel_rfl)) ?_
              try go_wp2
              (try simp only [← hl3_4, ← hl26_4])
              go_roundg k4
              case measure => have := HK1.out; have := HK2.out; have := HK3.out; have := HK4.out; omega
              case rel => exact ⟨(y263), (wrap64 (x27_4 + 1)), vq_, H', ⟨by have := HK1.out; have := HK2.out; have := HK3.out; have := HK4.out; omega⟩, ⟨by (try simp only [hl3_1]); (try simp only [hl4_1]); (try simp only [hl3_4]); (try simp only [hl26_4]); refine mv_ ?_; exact HQ113.out⟩, ⟨by (try simp only [hl3_1]); (try simp only [hl4_1]); (try simp only [hl3_4]); (try simp only [hl26_4]); refine mv_ ?_; exact Kd.R_mono (Kd.R_far (p := ⟨go5, (x27_4 : Int).toNat, none⟩) (Kd.R_types HO_4.out (Kd.R_typed HO_3.out _ rfl).choose_spec (by decide)) (fun _ hk => hk.2) (.int .u32 (((rd x3_4 x27_4) + (rd y260 x27_4)) % 4294967296))) (fun _ hk => trivial)⟩, ⟨by (try simp only [hl3_1]); (try simp only [hl4_1]); (try simp only [hl3_4]); (try simp only [hl26_4]); refine mv_ ?_; exact Kd.R_mono (Kd.R_far (p := ⟨go5, (x27_4 : Int).toNat, none⟩) (Kd.R_mono HO_26.out (fun k_ hk => (⟨hk, fun e_ => hk (by rw [e_]; rfl)⟩ : _ ∧ k_ ≠ go5))) (fun _ hk => hk.2) (.int .u32 (((rd x3_4 x27_4) + (rd y260 x27_4)) % 4294967296))) (fun _ hk => hk.1)⟩, ⟨bs_ GB5.out⟩⟩
             ·rw [if_neg c106] at H
              exact absurd H (by simp)
             ⟩
             exact inferInstanceAs _
            rw [if_neg c105] at H
            have c105b0 : decide (x27_4 < 8) = false := decide_eq_false c105
            (try (have c105b7 := c105b0; simp only [hl3_1, hl4_1, hl3_4, hl26_4] at c105b7))
            clear c105
            have H' := Aside0.mk H
            clear H
            go_wp2
            (try simp only [← hl3_1, ← hl4_1, ← hl3_4, ← hl26_4])
            go_roundg k4
            case measure => have := HK1.out; have := HK2.out; have := HK3.out; have := HK4.out; omega
            case rel => exact ⟨(x3_4), (x4_1), (wrap64 (x6_1 + 64)), vq_, H', ⟨by have := HK1.out; have := HK2.out; have := HK3.out; have := HK4.out; omega⟩, ⟨by (try simp only [hl3_1]); (try simp only [hl4_1]); (try simp only [hl3_4]); (try simp only [hl26_4]); refine mv_ ?_; exact Kd.R_mono HO_3.out (fun _ hk => trivial)⟩, ⟨by (try simp only [hl3_1]); (try simp only [hl4_1]); (try simp only [hl3_4]); (try simp only [hl26_4]); refine mv_ ?_; exact HO_4.out⟩, ⟨bl_⟩⟩
         ·rw [if_neg c98] at H
          exact absurd H (by simp)
         ⟩
         exact inferInstanceAs _
      ·rw [if_neg c74] at H
       exact absurd H (by simp)
      ⟩
      exact inferInstanceAs _
    ⟩
    exact inferInstanceAs _
   refine Nonempty.elim ?gc22n id
   letI i_ : type_of% ?gc22n := ⟨by
   rw [if_neg c22] at H
   have c22b0 : decide (x6_1 < (t223.size : Int)) = false := decide_eq_false c22
   (try (have c22b7 := c22b0; simp only [hl3_1, hl4_1] at c22b7))
   clear c22
   have H' := Aside0.mk H
   clear H
   go_wp2
   go_loopg [28, 29] k1 (fun kq v28 v29 w' => ∃ (x28_2 : List Int) (x29_2 : Int), v29 = .int .i64 x29_2 ∧ Aside0 (palaverref02_Sum.l4 kq x3_1 x28_2 x29_2 = some r) ∧ Aside0 (kq ≤ k1) ∧ Aside0 (Kd.R (Kd.int .u32) 109 w' w.heap.size (fun _ => True) (.slice (some ⟨go5, 0, none⟩) x3_1.length co5) x3_1) ∧ Aside0 (Kd.R (Kd.int .u8) 5 w' w.heap.size (fun _ => True) v28 x28_2) ∧ Aside0 (Below w.heap.size w w'))
   case atStart => exact ⟨(([] : List Int)), (0), vq_, H', ⟨Nat.le_refl _⟩, ⟨by (try simp only [hl3_1]); (try simp only [hl4_1]); refine mv_ ?_; exact HO_3.out⟩, ⟨by (try simp only [hl3_1]); (try simp only [hl4_1]); first | exact Kd.R_nil _ _ _ _ _ | exact Kd.N_nil _ _ _ _ _ | exact Kd.V_nil _ _ _ _ _ | exact Kd.Q_nil _ _ _ _ _ | exact Kd.S_nil _ _ _ _ _⟩, ⟨bl_⟩⟩
   case round =>
    clear H'
    (try clear c1); (try clear p1); (try clear q1); (try clear hx1); (try clear qi1); (try clear hf1); (try clear c2); (try clear p2); (try clear q2); (try clear hx2); (try clear qi2); (try clear c4); (try clear c5); (try clear c6); (try clear p6); (try clear q6); (try clear hx6); (try clear hf6); (try clear c7); (try clear c8); (try clear c9); (try clear c10); (try clear p10); (try clear q10); (try clear hx10); (try clear qi10); (try clear hf10); (try clear c11); (try clear p11); (try clear q11); (try clear hx11); (try clear hf11); (try clear c22); (try clear c22b0); (try clear c22b7); (try clear hx22); (try clear p23); (try clear q23); (try clear hx23); (try clear p24); (try clear q24); (try clear hx24); (try clear qi24); (try clear c25); (try clear c25b0); (try clear c25b7); (try clear p25); (try clear q25); (try clear hx25); (try clear p26); (try clear q26); (try clear hx26); (try clear c49); (try clear c51); (try clear c52); (try clear c56); (try clear c57); (try clear c61); (try clear c62); (try clear c64); (try clear p64); (try clear c65); (try clear c66); (try clear c67); (try clear p68); (try clear q68); (try clear hx68); (try clear hf68); (try clear c74); (try clear c74b0); (try clear c74b1); (try clear c75); (try clear c75b0); (try clear c75b1); (try clear c75b7); (try clear c75b8); (try clear c76); (try clear c76b0); (try clear c76b1); (try clear c76b7); (try clear c76b8); (try clear c77); (try clear c77b0); (try clear c77b1); (try clear c77b7); (try clear c77b8); (try clear c78); (try clear c78b0); (try clear c78b1); (try clear c78b7); (try clear c78b8); (try clear c79); (try clear c79b0); (try clear c79b1); (try clear c79b7); (try clear c79b8); (try clear c80); (try clear c80b0); (try clear c80b1); (try clear c80b7); (try clear c80b8); (try clear c81); (try clear c81b0); (try clear c81b1); (try clear c81b7); (try clear c81b8); (try clear c82); (try clear c82b0); (try clear c82b1); (try clear c82b7); (try clear c82b8); (try clear c84); (try clear c84b0); (try clear c84b7); (try clear c88); (try clear c88b0); (try clear c88b1); (try clear c89); (try clear c89b0); (try clear c89b7); (try clear c90); (try clear c90b0); (try clear c90b7); (try clear c91); (try clear c91b0); (try clear c91b1); (try clear c92); (try clear c92b0); (try clear c92b7); (try clear c98); (try clear c98b0); (try clear c98b1); (try clear c99); (try clear c99b0); (try clear c99b1); (try clear c99b7); (try clear c99b8); (try clear p100); (try clear q100); (try clear hx100); (try clear qi100); (try clear hf100); (try clear c105); (try clear c105b0); (try clear c105b7); (try clear c106); (try clear c106b0); (try clear c106b1); (try clear c107); (try clear c107b0); (try clear c107b7); (try clear c108); (try clear c108b0); (try clear c108b7); (try clear c109); (try clear c109b0); (try clear c109b1); (try clear c110); (try clear c110b0); (try clear c110b7); (try clear p111); (try clear q111); (try clear hx111); (try clear hf111); (try clear hx100_0); (try clear hx111_0); (try clear hx228_0); (try clear hx230_0); (try clear hx232_0); (try clear hx233_0); (try clear hx235_0); (try clear hx237_0); (try clear hx238_0); (try clear hx239_0); (try clear hx241_0); (try clear hx242_0); (try clear hx243_0); (try clear hx244_0); (try clear hx245_0); (try clear hx246_0); (try clear hx247_0); (try clear hx248_0); (try clear hx252_0); (try clear hx253_0); (try clear hx261_0); (try clear hx262_0); (try clear hx68_0); (try clear p1); (try clear p10); (try clear p100); (try clear p111); (try clear p2); (try clear p23); (try clear p238); (try clear p239); (try clear p24); (try clear p241); (try clear p242); (try clear p243); (try clear p244); (try clear p245); (try clear p246); (try clear p247); (try clear p248); (try clear p25); (try clear p252); (try clear p253); (try clear p261); (try clear p262); (try clear p6); (try clear p64); (try clear p68); (try clear q1); (try clear q10); (try clear q100); (try clear q111); (try clear q2); (try clear q23); (try clear q238); (try clear q239); (try clear q24); (try clear q241); (try clear q242); (try clear q243); (try clear q244); (try clear q245); (try clear q246); (try clear q247); (try clear q248); (try clear q25); (try clear q252); (try clear q253); (try clear q261); (try clear q262); (try clear q6); (try clear q68)
    obtain ⟨x28_2, x29_2, rfl, HA, HK2, HO_3, HO_28, HB⟩ := hrel
    cases gk with
    | zero => exact absurd HA.out (by simp [palaverref02_Sum.l4])
    | succ k2 =>
     have H := HA.out
     clear HA
     simp only [palaverref02_Sum.l4] at H
     by_cases c114 : x29_2 < 8
     ·refine Nonempty.elim ?gc114p id
      letI i_ : type_of% ?gc114p := ⟨by
      rw [if_pos c114] at H
      have c114b0 : decide (x29_2 < 8) = true := decide_eq_true c114
      (try (have c114b7 := c114b0; simp only [hl3_1, hl4_1] at c114b7))
      clear c114
      by_cases c115 : x3_1.length = 8
      ·rw [if_pos c115] at H
       have c115b0 := eq_true c115
       have c115b1 : decide (x3_1.length = 8) = true := decide_eq_true c115
       clear c115
       revert H; refine nd_ fun c116 c116b0 => nd_ fun c117 c117b0 => oy_ fun y268 Ny268 => nc_ fun c118 H => ?_
       (try (have c116b7 := c116b0; simp only [hl3_1, hl4_1] at c116b7))
       (try (have c117b7 := c117b0; simp only [hl3_1, hl4_1] at c117b7))
       have LMc118 := Aside0.mk c118
       clear c116 c117 c118
       generalize e_ : (x28_2 ++ y268 : List Int) = y271 at H
       have Ny271 := Aside0.mk e_.symm
       clear e_
       have H' := Aside0.mk H
       clear H
       try go_wp2
       replace HB := Aside0.mk (below_drew1 HB.out)
       replace HO_28 := Aside0.mk (Kd.R_drew HO_28.out)
       replace HO_3 := Aside0.mk (Kd.R_drew HO_3.out)
       have qa264 : ((x29_2 : Int) < (8 : Int)) = True := qa_ x3_1 8
       have p264 : 0 ≤ (x29_2 : Int) := ad_
       have q264 : x29_2 < (x3_1.length : Int) := ad_
       obtain ⟨ad264, e264, hx264_0⟩ := Kd.at_int (Kd.R_reads' HO_3.out).2.2 x29_2 p264 q264
       obtain rfl : (⟨go5, 0, none⟩ : Addr) = ad264 := (by injection e264)
       (first | simp only [add_plain] at hx264_0 | simp only [add_at] at hx264_0 | simp only [Addr.add, Nat.zero_add] at hx264_0 | skip)
       replace p264 := eq_true p264
       replace q264 := eq_true q264
       have qa265 : ((x29_2 : Int) < (8 : Int)) = True := qa_ x3_1 8
       have p265 : 0 ≤ (x29_2 : Int) := ad_
       have q265 : x29_2 < (x3_1.length : Int) := ad_
       obtain ⟨ad265, e265, hx265_0⟩ := Kd.at_int (Kd.R_reads' HO_3.out).2.2 x29_2 p265 q265
       obtain rfl : (⟨go5, 0, none⟩ : Addr) = ad265 := (by injection e265)
       (first | simp only [add_plain] at hx265_0 | simp only [add_at] at hx265_0 | simp only [Addr.add, Nat.zero_add] at hx265_0 | skip)
       replace p265 := eq_true p265
       replace q265 := eq_true q265
       have qa266 : ((x29_2 : Int) < (8 : Int)) = True := qa_ x3_1 8
       have p266 : 0 ≤ (x29_2 : Int) := ad_
       have q266 : x29_2 < (x3_1.length : Int) := ad_
       obtain ⟨ad266, e266, hx266_0⟩ := Kd.at_int (Kd.R_reads' HO_3.out).2.2 x29_2 p266 q266
       obtain rfl : (⟨go5, 0, none⟩ : Addr) = ad266 := (by injection e266)
       (first | simp only [add_plain] at hx266_0 | simp only [add_at] at hx266_0 | simp only [Addr.add, Nat.zero_add] at hx266_0 | skip)
       replace p266 := eq_true p266
       replace q266 := eq_true q266
       have qa267 : ((x29_2 : Int) < (8 : Int)) = True := qa_ x3_1 8
       have p267 : 0 ≤ (x29_2 : Int) := ad_
       have q267 : x29_2 < (x3_1.length : Int) := ad_
       obtain ⟨ad267, e267, hx267_0⟩ := Kd.at_int (Kd.R_reads' HO_3.out).2.2 x29_2 p267 q267
       obtain rfl : (⟨go5, 0, none⟩ : Addr) = ad267 := (by injection e267)
       (first | simp only [add_plain] at hx267_0 | simp only [add_at] at hx267_0 | simp only [Addr.add, Nat.zero_add] at hx267_0 | skip)
       replace p267 := eq_true p267
       replace q267 := eq_true q267
       refine start_ (n := 23) (S := fun w' => w'.cell? ⟨go5, (x29_2).toNat, none⟩ = some (.int .u32 (rd x3_1 x29_2)) ∧ w'.cell? ⟨go5, (x29_2).toNat, none⟩ = some (.int .u32 (rd x3_1 x29_2)) ∧ w'.cell? ⟨go5, (x29_2).toNat, none⟩ = some (.int .u32 (rd x3_1 x29_2)) ∧ w'.cell? ⟨go5, (x29_2).toNat, none⟩ = some (.int .u32 (rd x3_1 x29_2))) (ds := [21]) #[false, false, false, false, false, false, false, false, false, false, false, false, false, false, false, false, false, false, false, false, false, false, false] (by kernel_rfl) rfl rfl ⟨hx264_0, hx265_0, hx266_0, hx267_0⟩ (fun hHeld => ?_); refine with_tabW palaverref02_Sum.tab43 palaverref02_Sum.bits43 (fun HT_ HW_ => ?_)
       generalize wr.drew = w119 at HO_3 HO_28 HB hx264_0 hx265_0 hx266_0 hx267_0 hHeld ⊢
       refine runs_ [(0, some 243), (1, some 244), (2, some 245), (6, some 249), (7, some 250), (11, some 254), (12, some 255), (16, some 259), (17, some 260)] ?_
       iterate 9 (refine pL_ ?_)
       refine runsE_ ?_
       refine take_ (i := 3) (N := some 246) (v := ?_) (a' := ?_) #[true, true, true, true, false, false, true, true, false, false, false, true, true, false, false, false, true, true, false, false, false, false, false] rfl rfl (take_ofW HT_.out HW_.out (by kernel_rfl)) (fun _ _ _ h => h) (Or.inl ⟨by rfl, ?_⟩) hHeld ?_ ?_
       rotate_left
       ·rintro w' ⟨s0, s1, s2, s3⟩
        go_simp
        with_reducible rfl
       rotate_left
       ·simp only [pr_]
        rfl
       refine runs_ [(4, some 247), (5, some 248)] ?_
       iterate 2 (refine pL_ ?_)
       refine runsE_ ?_
       refine take_ (i := 8) (N := some 251) (v := ?_) (a' := ?_) #[true, true, true, true, true, true, true, true, true, false, false, true, true, false, false, false, true, true, false, false, false, false, false] rfl rfl (take_ofW HT_.out HW_.out (by kernel_rfl)) (fun _ _ _ h => h) (Or.inl ⟨by rfl, ?_⟩) hHeld ?_ ?_
       rotate_left
       ·rintro w' ⟨s0, s1, s2, s3⟩
        go_simp
        with_reducible rfl
       rotate_left
       ·simp only [pr_]
        rfl
       refine runs_ [(9, some 252), (10, some 253)] ?_
       iterate 2 (refine pL_ ?_)
       refine runsE_ ?_
       refine take_ (i := 13) (N := some 256) (v := ?_) (a' := ?_) #[true, true, true, true, true, true, true, true, true, true, true, true, true, true, false, false, true, true, false, false, false, false, false] rfl rfl (take_ofW HT_.out HW_.out (by kernel_rfl)) (fun _ _ _ h => h) (Or.inl ⟨by rfl, ?_⟩) hHeld ?_ ?_
       rotate_left
       ·rintro w' ⟨s0, s1, s2, s3⟩
        go_simp
        with_reducible rfl
       rotate_left
       ·simp only [pr_]
        rfl
       refine runs_ [(14, some 257), (15, some 258)] ?_
       iterate 2 (refine pL_ ?_)
       refine runsE_ ?_
       refine take_ (i := 18) (N := some 261) (v := ?_) (a' := ?_) #[true, true, true, true, true, true, true, true, true, true, true, true, true, true, true, true, true, true, true, false, false, false, false] rfl rfl (take_ofW HT_.out HW_.out (by kernel_rfl)) (fun _ _ _ h => h) (Or.inl ⟨by rfl, ?_⟩) hHeld ?_ ?_
       rotate_left
       ·rintro w' ⟨s0, s1, s2, s3⟩
        go_simp
        with_reducible rfl
       rotate_left
       ·simp only [pr_]
        rfl
       refine pure_ (i := 19) (N := some 262) (v := ?_) (a' := ?_) #[true, true, true, true, true, true, true, true, true, true, true, true, true, true, true, true, true, true, true, true, false, false, false] rfl rfl (any_of HT_.out (by kernel_rfl)) (fun _ _ _ h => h) (Or.inl ⟨by rfl, ?_⟩) ?_ ?_
       rotate_left
       ·intro w'
        go_simp
        with_reducible rfl
       rotate_left
       ·simp only [pr_]
        rfl
       refine one_ (i := 20) (N := some 263) #[true, true, true, true, true, true, true, true, true, true, true, true, true, true, true, true, true, true, true, true, true, false, false] rfl rfl (one_of HT_.out (by kernel_rfl)) (by decide) (fun K hK => ?_)
       refine Kd.R_lit_step (Kd.int .u8) _ 5 ?hg (N := 263) ?hd (xs := ([((rd x3_1 x29_2) / 16777216) % 256, ((rd x3_1 x29_2) / 65536) % 256, ((rd x3_1 x29_2) / 256) % 256, (rd x3_1 x29_2) % 256] : List Int)) (inner := [.int .u8 (((rd x3_1 x29_2) / 16777216) % 256), .int .u8 (((rd x3_1 x29_2) / 65536) % 256), .int .u8 (((rd x3_1 x29_2) / 256) % 256), .int .u8 ((rd x3_1 x29_2) % 256)]) (ok := fun _ => True) (okp := fun _ => True) ?hr ?hp (fun _ hk => hk) trivial (Below.refl _ _) (Nat.le_refl _) (by simp) ?_; (case hd => rfl); (case hg => rfl); (case hr => exact gr_); (case hp => exact (Reps.one (show Kd.M (Kd.int .u8) _ _ _ (((rd x3_1 x29_2) / 16777216) % 256) [.int .u8 (((rd x3_1 x29_2) / 16777216) % 256)] from rfl) (Reps.one (show Kd.M (Kd.int .u8) _ _ _ (((rd x3_1 x29_2) / 65536) % 256) [.int .u8 (((rd x3_1 x29_2) / 65536) % 256)] from rfl) (Reps.one (show Kd.M (Kd.int .u8) _ _ _ (((rd x3_1 x29_2) / 256) % 256) [.int .u8 (((rd x3_1 x29_2) / 256) % 256)] from rfl) (Reps.one (show Kd.M (Kd.int .u8) _ _ _ ((rd x3_1 x29_2) % 256) [.int .u8 ((rd x3_1 x29_2) % 256)] from rfl) (Reps.none _ _))))))
       intro v269 w120 ho121 hb hg_ hnew_
       have HS0_ := (hb.cell (World.block_lt_of_cell? _ _ (hHeld.1))).trans (hHeld.1)
       have HS1_ := (hb.cell (World.block_lt_of_cell? _ _ (hHeld.2.1))).trans (hHeld.2.1)
       have HS2_ := (hb.cell (World.block_lt_of_cell? _ _ (hHeld.2.2.1))).trans (hHeld.2.2.1)
       have HS3_ := (hb.cell (World.block_lt_of_cell? _ _ (hHeld.2.2.2))).trans (hHeld.2.2.2)
       clear hg_ hnew_
       (first | rw [← Ny268.out] at ho121 | (simp only [Int.reduceToNat] at ho121; rw [← Ny268.out] at ho121))
       have HO270 := Aside0.mk (Kd.R_lower (Kd.R_new' ho121 (Kd.R_lt (mv_ HO_28.out))) (below_size bl_))
       replace HB := Aside0.mk (below_step bl_ hb)
       replace HO_28 := Aside0.mk (Kd.R_elder' (mv_ HO_28.out) (Kd.R_base ho121) hb)
       replace HO_3 := Aside0.mk (Kd.R_below (mv_ HO_3.out) hb)
       clear hb ho121
       obtain ⟨Ao123, co123, eo123⟩ := Kd.R_slice HO270.out
       (first | subst eo123 | (injection eo123 with f1_ f2_ f3_; have f4_ := f1_.symm; have f5_ := f3_.symm; clear f1_ f2_ f3_; subst f4_; subst f5_))
       refine hK.out _ _ ⟨HS0_, HS1_, HS2_, HS3_⟩ (fun hHeld => ?_)
       clear hK K
       refine norm_ (a' := ?_) ?_ ?_
       rotate_left
       ·show Act.put _ (some 263) _ = _
        simp only [pr_]
        rfl
       refine last_ (i := 21) (N := some 264) #[true, true, true, true, true, true, true, true, true, true, true, true, true, true, true, true, true, true, true, true, true, true, false] rfl rfl (one_of HT_.out (by kernel_rfl)) (by decide) (fun K hK => ?_)
       refine Kd.R_append_rows_step (Kd.int .u8) (w0 := w) w.heap.size (by rfl) (.tmp 243) (.tmp 263) 91 5 (.int .u8 0) 1 rfl Tryd.underlying91 info5 rfl (by decide) (by omega) u28 x28_2 y268 _ _ _ (fun k_ => some k_ ≠ (.slice Ao123 y268.length co123 : Value).ownBlock) (fun _ => False) rfl rfl ?aO ?aR (fun _ _ h => h) (fun _ h => h.elim) ?aF ?aB ?aS ?aL ?_
       (case aR => repeat (first | exact (Kd.R_reads' HO270.out).2.2 | (with_reducible refine Kd.C_alloc ?_ _) | (with_reducible refine Kd.C_drewN ?_ _) | (with_reducible refine Kd.C_drew ?_)))
       (case aB => exact bl_)
       (case aF => exact (fun k_ hk => Kd.fresh' (Kd.R_lt (mv_ HO270.out)) k_ hk))
       (case aO => exact (by refine mv_ ?_; exact Kd.R_mono HO_28.out (fun _ hk => hk.2)))
       (case aS => exact (below_size bl_))
       (case aL => have := LMc118.out; omega)
       intro v272 w122 ho hb hg hat
       rw [← Ny271.out] at ho
       have HO273 := Aside0.mk (ho)
       replace HB := Aside0.mk (hb)
       replace HO270 := Aside0.mk (Kd.R_after (ok := (fun _ => True)) (mv_ HO270.out) hg hat)
       replace HO_3 := Aside0.mk (Kd.R_over' (mv_ HO_3.out) (Kd.R_typed (mv_ HO_28.out)) (by decide) hg)
       clear HO_28
       clear ho hb hg hat
       refine hK.out _ _ ?_
       clear hK K
       refine norm_ (a' := ?_) ?_ ?_
       rotate_left
       ·show Act.put _ (some 264) _ = _
        simp only [pr_]
        rfl
       refine pure_ (i := 22) (N := some 28) (v := ?_) (a' := ?_) #[true, true, true, true, true, true, true, true, true, true, true, true, true, true, true, true, true, true, true, true, true, true, true] rfl rfl (any_of HT_.out (by kernel_rfl)) (fun _ _ _ h => h) (Or.inl ⟨by rfl, ?_⟩) ?_ ?_
       rotate_left
       ·intro w'
        go_simp
        with_reducible rfl
       rotate_left
       ·simp only [pr_]
        rfl
       refine done_ (done_of HT_.out (by kernel_rfl)) ?_
       try go_wp2
       go_roundg k2
       case measure => have := HK1.out; have := HK2.out; omega
       case rel => exact ⟨(y271), (wrap64 (x29_2 + 1)), vq_, H', ⟨by have := HK1.out; have := HK2.out; omega⟩, ⟨by (try simp only [hl3_1]); (try simp only [hl4_1]); refine mv_ ?_; exact HO_3.out⟩, ⟨by (try simp only [hl3_1]); (try simp only [hl4_1]); refine mv_ ?_; exact Kd.R_mono HO273.out (fun _ hk => trivial)⟩, ⟨bl_⟩⟩
      ·rw [if_neg c115] at H
       exact absurd H (by simp)
      ⟩
      exact inferInstanceAs _
     rw [if_neg c114] at H
     have c114b0 : decide (x29_2 < 8) = false := decide_eq_false c114
     (try (have c114b7 := c114b0; simp only [hl3_1, hl4_1] at c114b7))
     clear c114
     obtain rfl := Option.some.inj H
     have hcv124 := own_string (P := Tryd.prog) Tryd.underlying91 Tryd.underlying5 Tryd.underlying9 (Kd.own_of_R HO_28.out)
     go_wp2
     go_ret
     exact ⟨er_, bl_⟩
   ⟩
   exact inferInstanceAs _

/-! ### palaverref01_Number: function 32 -/
mutual
def palaverref01_Number.l0 : Nat → Int → Int → Int → Int → Option (ByteArray × Bool)
 | 0, _, _, _, _ => none
 | k + 1, x0, x1, x6, x7 => if x7 < x1 then (palaverref01_Number.l0 k x0 x1 (wrap64 (256 * x6)) (wrap64 (x7 + 1))) else (if x0 < 0 then (palaverref01_Number.j1 k x0 x1 true) else (palaverref01_Number.j1 k x0 x1 (decide (x0 ≥ x6))))
def palaverref01_Number.j1 : Nat → Int → Int → Bool → Option (ByteArray × Bool)
 | 0, _, _, _ => none
 | k + 1, x0, x1, x23 => if x23 = true then (some ((⟨#[]⟩ : ByteArray), false)) else (palaverref01_Number.l1 k x0 x1 (⟨#[]⟩ : ByteArray) 0)
def palaverref01_Number.l1 : Nat → Int → Int → ByteArray → Int → Option (ByteArray × Bool)
 | 0, _, _, _, _ => none
 | k + 1, x0, x1, x8, x9 => if x9 < x1 then ((some (([(Int.tmod x0 256) % 256] : List Int) : List Int)).bind fun y274 => (if (strOfNums y274).size + x8.size ≤ 9223372036854775807 then (palaverref01_Number.l1 k (wrap64 (Int.tdiv x0 256)) x1 ((strOfNums y274) ++ x8) (wrap64 (x9 + 1))) else (none))) else (some (x8, true))
end
def palaverref01_Number.f (k : Nat) (a0 : Int) (a1 : Int) : Option (ByteArray × Bool) := palaverref01_Number.l0 k a0 a1 1 0
theorem palaverref01_Number.mono_l : ∀ k, (∀ y0 y1 y2 y3, LeO (palaverref01_Number.l0 k y0 y1 y2 y3) (palaverref01_Number.l0 (k + 1) y0 y1 y2 y3)) ∧ (∀ y0 y1 y2, LeO (palaverref01_Number.j1 k y0 y1 y2) (palaverref01_Number.j1 (k + 1) y0 y1 y2)) ∧ (∀ y0 y1 y2 y3, LeO (palaverref01_Number.l1 k y0 y1 y2 y3) (palaverref01_Number.l1 (k + 1) y0 y1 y2 y3))
 | 0 => ⟨fun _ _ _ _ r h => by simp [palaverref01_Number.l0] at h, fun _ _ _ r h => by simp [palaverref01_Number.j1] at h, fun _ _ _ _ r h => by simp [palaverref01_Number.l1] at h⟩
 | k + 1 => by
  obtain ⟨ih0, ih1, ih2⟩ := palaverref01_Number.mono_l k
  refine ⟨?_, ?_, ?_⟩ <;> intros <;> (first | unfold palaverref01_Number.l0 | unfold palaverref01_Number.j1 | unfold palaverref01_Number.l1) <;> repeat' first
  | (with_reducible exact ih0 _ _ _ _)
  | (with_reducible exact ih1 _ _ _)
  | (with_reducible exact ih2 _ _ _ _)
  | (with_reducible exact LeO.refl _)
  | (with_reducible exact LeO.none _)
  | (with_reducible refine LeO.ite ?_ ?_)
  | (with_reducible refine LeO.bind ?_ (fun _ => ?_))
  | exact ih0 _ _ _ _
  | exact ih1 _ _ _
  | exact ih2 _ _ _ _
  | exact LeO.none _
  | refine LeO.ite ?_ ?_
  | refine LeO.bind ?_ (fun _ => ?_)
theorem palaverref01_Number.mono : ∀ a0 a1 k, LeO (palaverref01_Number.f k a0 a1) (palaverref01_Number.f (k + 1) a0 a1) := by
 intro a0 a1 k
 obtain ⟨ih0, ih1, ih2⟩ := palaverref01_Number.mono_l k
 unfold palaverref01_Number.f
 repeat' first
  | (with_reducible exact ih0 _ _ _ _)
  | (with_reducible exact ih1 _ _ _)
  | (with_reducible exact ih2 _ _ _ _)
  | (with_reducible exact LeO.refl _)
  | (with_reducible exact LeO.none _)
  | (with_reducible refine LeO.ite ?_ ?_)
  | (with_reducible refine LeO.bind ?_ (fun _ => ?_))
  | exact ih0 _ _ _ _
  | exact ih1 _ _ _
  | exact ih2 _ _ _ _
  | exact LeO.none _
  | refine LeO.ite ?_ ?_
  | refine LeO.bind ?_ (fun _ => ?_)
set_option maxHeartbeats 64000000 in
set_option maxRecDepth 100000 in
theorem palaverref01_Number.calls (k : Nat) (a0 : Int) (a1 : Int) (r1 : ByteArray) (r2 : Bool) (w : World) (h : palaverref01_Number.f k a0 a1 = some (r1, r2)) :
 Calls Tryd.prog 32 #[.int .i64 a0, .int .i64 a1] w fun e w' => e = .returned (.tuple #[.string r1, .bool r2]) ∧ Below w.heap.size w w' := by
 have HB := Aside0.mk (Below.refl w.heap.size w)
 have H : (palaverref01_Number.l0 k a0 a1 1 0) = some (r1, r2) := h
 clear h
 have H' := Aside0.mk H
 clear H
 go_enter Tryd.func32, Tryd.ntmps32
 go_wp2
 go_loopg [6, 7] k (fun kq v6 v7 w' => ∃ (x6_1 : Int) (x7_1 : Int), v6 = .int .i64 x6_1 ∧ v7 = .int .i64 x7_1 ∧ Aside0 (palaverref01_Number.l0 kq a0 a1 x6_1 x7_1 = some (r1, r2)) ∧ Aside0 (kq ≤ k) ∧ Aside0 (Below w.heap.size w w'))
 case atStart => exact ⟨(1), (0), vq_, vq_, H', ⟨Nat.le_refl _⟩, ⟨bl_⟩⟩
 case round =>
  clear H'
  (try clear p2)
  obtain ⟨x6_1, x7_1, rfl, rfl, HA, HK1, HB⟩ := hrel
  cases gk with
  | zero => exact absurd HA.out (by simp [palaverref01_Number.l0])
  | succ k1 =>
   have H := HA.out
   clear HA
   simp only [palaverref01_Number.l0] at H
   by_cases c3 : x7_1 < a1
   ·rw [if_pos c3] at H
    have c3b0 : decide (x7_1 < a1) = true := decide_eq_true c3
    clear c3
    have H' := Aside0.mk H
    clear H
    go_wp2
    go_roundg k1
    case measure => have := HK1.out; omega
    case rel => exact ⟨(wrap64 (256 * x6_1)), (wrap64 (x7_1 + 1)), vq_, vq_, H', ⟨by have := HK1.out; omega⟩, ⟨bl_⟩⟩
   rw [if_neg c3] at H
   have c3b0 : decide (x7_1 < a1) = false := decide_eq_false c3
   clear c3
   have HC4 := Aside0.mk H
   clear H
   go_upto_region 6 with (fail)
   go_cut [23] (fun v23 wc => ∃ (kq : Nat) (x23_3 : Bool), v23 = .bool x23_3 ∧ Aside0 (palaverref01_Number.j1 kq a0 a1 x23_3 = some (r1, r2)) ∧ Aside0 (kq ≤ k1) ∧ Aside0 (Below w.heap.size w wc))
   case first =>
    have H := HC4.out
    clear HC4
    by_cases c5 : a0 < 0
    ·rw [if_pos c5] at H
     have c5b0 : decide (a0 < 0) = true := decide_eq_true c5
     clear c5
     (first | rw [c5b0] | (simp only [i64_w, i32_w]; rw [c5b0]) | skip)
     have H' := Aside0.mk H
     clear H
     go_wp2
     go_meet
     case rel => exact ⟨_, (true), vq_, H', ⟨by have := HK1.out; first | omega | exact Nat.le_refl _⟩, ⟨bl_⟩⟩
    rw [if_neg c5] at H
    have c5b0 : decide (a0 < 0) = false := decide_eq_false c5
    clear c5
    (first | rw [c5b0] | (simp only [i64_w, i32_w]; rw [c5b0]) | skip)
    have H' := Aside0.mk H
    clear H
    go_wp2
    go_meet
    case rel => exact ⟨_, (decide (a0 ≥ x6_1)), vq_, H', ⟨by have := HK1.out; first | omega | exact Nat.le_refl _⟩, ⟨bl_⟩⟩
   case rest =>
    clear HC4
    (try clear p2); (try clear c3); (try clear c3b0); (try clear c5); (try clear c5b0); (try clear p2)
    obtain ⟨kq, x23_3, rfl, HA, HJ3, HB⟩ := hcut
    cases kq with
    | zero => exact absurd HA.out (by simp [palaverref01_Number.j1])
    | succ kj3 =>
     have H := HA.out
     clear HA
     simp only [palaverref01_Number.j1] at H
     by_cases c6 : x23_3 = true
     ·subst c6
      have H1 : (some ((⟨#[]⟩ : ByteArray), false)) = some (r1, r2) := by rw [if_pos rfl] at H; exact H
      clear H
      have H := H1
      clear H1
      simp only [Option.some.injEq, Prod.mk.injEq] at H
      obtain ⟨rfl, rfl⟩ := H
      go_wp2
      go_ret2
      exact ⟨er_, bl_⟩
     replace c6 := Bool.eq_false_iff.mpr c6
     subst c6
     have H1 : (palaverref01_Number.l1 kj3 a0 a1 (⟨#[]⟩ : ByteArray) 0) = some (r1, r2) := by rw [if_neg (show ¬ (false = true) by decide)] at H; exact H
     clear H
     have H := H1
     clear H1
     have H' := Aside0.mk H
     clear H
     go_wp2
     go_loopg [0, 8, 9] kj3 (fun kq v0 v8 v9 w' => ∃ (x0_3 : Int) (x8_3 : ByteArray) (x9_3 : Int), v0 = .int .i64 x0_3 ∧ v8 = .string x8_3 ∧ v9 = .int .i64 x9_3 ∧ Aside0 (palaverref01_Number.l1 kq x0_3 a1 x8_3 x9_3 = some (r1, r2)) ∧ Aside0 (kq ≤ kj3) ∧ Aside0 (Below w.heap.size w w'))
     case atStart => exact ⟨(a0), ((⟨#[]⟩ : ByteArray)), (0), vq_, vq_, vq_, H', ⟨Nat.le_refl _⟩, ⟨bl_⟩⟩
     case round =>
      clear H'
      (try clear p2); (try clear c3); (try clear c3b0); (try clear c5); (try clear c5b0); (try clear c6); (try clear p6); (try clear p2)
      obtain ⟨x0_3, x8_3, x9_3, rfl, rfl, rfl, HA, HK3, HB⟩ := hrel
      cases gk with
      | zero => exact absurd HA.out (by simp [palaverref01_Number.l1])
      | succ k3 =>
       have H := HA.out
       clear HA
       simp only [palaverref01_Number.l1] at H
       by_cases c7 : x9_3 < a1
       ·rw [if_pos c7] at H
        have c7b0 : decide (x9_3 < a1) = true := decide_eq_true c7
        clear c7
        revert H; refine oy_ fun y274 Ny274 => ne_ fun c8 c8b0 c8b1 H => ?_
        try have c8b2 : (9223372036854775807 < (strOfNums y274).size + x8_3.size) = False := eq_false (Nat.not_lt.2 c8)
        have H' := Aside0.mk H
        clear H
        go_wp2_with (first | ((with_reducible refine gate_dst (N := 32) rfl ?_); refine Kd.R_lit (Kd.int .u8) _ 5 ?hg (N := 32) ?hd (xs := ([(Int.tmod x0_3 256) % 256] : List Int)) (inner := [.int .u8 ((Int.tmod x0_3 256) % 256)]) (ok := fun _ => True) (okp := fun _ => True) ?hr ?hp (fun _ hk => hk) trivial (Below.refl _ _) (Nat.le_refl _) (by simp) ?_; (case hd => rfl); (case hg => rfl); (case hr => exact gr_); (case hp => exact (Reps.one (show Kd.M (Kd.int .u8) _ _ _ ((Int.tmod x0_3 256) % 256) [.int .u8 ((Int.tmod x0_3 256) % 256)] from rfl) (Reps.none _ _))); intro v275 w9 ho10 hb hg_ hnew_; clear hg_ hnew_; (first | rw [← Ny274.out] at ho10 | (simp only [Int.reduceToNat] at ho10; rw [← Ny274.out] at ho10)); have HO276 := Aside0.mk (Kd.R_lower ho10 (below_size bl_)); replace HB := Aside0.mk (below_step bl_ hb); clear hb ho10; have hcv11 := own_string (P := Tryd.prog) Tryd.underlying91 Tryd.underlying5 Tryd.underlying9 (Kd.own_of_R HO276.out)))
        go_roundg k3
        case measure => have := HK1.out; have := HJ3.out; have := HK3.out; omega
        case rel => exact ⟨(wrap64 (Int.tdiv x0_3 256)), ((strOfNums y274) ++ x8_3), (wrap64 (x9_3 + 1)), vq_, vq_, vq_, H', ⟨by have := HK1.out; have := HJ3.out; have := HK3.out; omega⟩, ⟨bl_⟩⟩
       rw [if_neg c7] at H
       have c7b0 : decide (x9_3 < a1) = false := decide_eq_false c7
       clear c7
       simp only [Option.some.injEq, Prod.mk.injEq] at H
       obtain ⟨rfl, rfl⟩ := H
       go_wp2
       go_ret2
       exact ⟨er_, bl_⟩

/-! ### palaverref02_Input: function 64 -/
def palaverref02_Input.l0 : Nat → List ByteArray → List Int → Int → Option (ByteArray)
 | 0, _, _, _ => none
 | k + 1, x1, x5, x6 => if x6 < (x1.length : Int) then (if 0 ≤ x6 then ((palaverref01_Number.f k ((rdOf ByteArray.empty x1 x6).size : Int) 4).bind fun bt281 => (if x5.length + bt281.1.size < 140737488355328 then ((some (x5 ++ bytesOf bt281.1 : List Int)).bind fun y283 => (if y283.length + (rdOf ByteArray.empty x1 x6).size < 140737488355328 then (palaverref02_Input.l0 k x1 (y283 ++ bytesOf (rdOf ByteArray.empty x1 x6)) (wrap64 (x6 + 1))) else (none))) else (none))) else (none)) else (some (strOfNums x5))
def palaverref02_Input.f (k : Nat) (a0 : Int) (l1 : List ByteArray) : Option (ByteArray) := palaverref02_Input.l0 k l1 (([(Int.tmod (wrap64 ((Int.tmod a0 256) + 256)) 256) % 256] : List Int)) 0
theorem palaverref02_Input.mono_l : ∀ k, (∀ y0 y1 y2, LeO (palaverref02_Input.l0 k y0 y1 y2) (palaverref02_Input.l0 (k + 1) y0 y1 y2))
 | 0 => fun _ _ _ r h => by simp [palaverref02_Input.l0] at h
 | k + 1 => by
  have ih0 := palaverref02_Input.mono_l k
  ·intro y0 y1 y2
   unfold palaverref02_Input.l0
   repeat' first
   | (with_reducible exact ih0 _ _ _)
   | (with_reducible exact palaverref01_Number.mono _ _ _)
   | (with_reducible exact LeO.refl _)
   | (with_reducible exact LeO.none _)
   | (with_reducible refine LeO.ite ?_ ?_)
   | (with_reducible refine LeO.bind ?_ (fun _ => ?_))
   | exact ih0 _ _ _
   | exact palaverref01_Number.mono _ _ _
   | exact LeO.none _
   | refine LeO.ite ?_ ?_
   | refine LeO.bind ?_ (fun _ => ?_)
theorem palaverref02_Input.mono : ∀ a0 a1 k, LeO (palaverref02_Input.f k a0 a1) (palaverref02_Input.f (k + 1) a0 a1) := by
 intro a0 a1 k
 have ih0 := palaverref02_Input.mono_l k
 unfold palaverref02_Input.f
 repeat' first
  | (with_reducible exact ih0 _ _ _)
  | (with_reducible exact palaverref01_Number.mono _ _ _)
  | (with_reducible exact LeO.refl _)
  | (with_reducible exact LeO.none _)
  | (with_reducible refine LeO.ite ?_ ?_)
  | (with_reducible refine LeO.bind ?_ (fun _ => ?_))
  | exact ih0 _ _ _
  | exact palaverref01_Number.mono _ _ _
  | exact LeO.none _
  | refine LeO.ite ?_ ?_
  | refine LeO.bind ?_ (fun _ => ?_)
set_option maxHeartbeats 64000000 in
set_option maxRecDepth 100000 in
theorem palaverref02_Input.calls (k : Nat) (a0 : Int) (A1 : Option Addr) (c1 : Nat) (l1 : List ByteArray) (r : ByteArray) (w : World) (hr1 : Kd.C Kd.string w A1 l1.length l1) (hc1 : l1.length ≤ c1) (h : palaverref02_Input.f k a0 l1 = some r) :
 Calls Tryd.prog 64 #[.int .i64 a0, .slice A1 l1.length c1] w fun e w' => e = .returned (.string r) ∧ Below w.heap.size w w' := by
 have HR1 := Aside0.mk hr1
 have HC1 := Aside0.mk hc1
 clear hr1 hc1
 have HB := Aside0.mk (Below.refl w.heap.size w)
 have H : (palaverref02_Input.l0 k l1 (([(Int.tmod (wrap64 ((Int.tmod a0 256) + 256)) 256) % 256] : List Int)) 0) = some r := h
 clear h
 generalize e_ : (([(Int.tmod (wrap64 ((Int.tmod a0 256) + 256)) 256) % 256] : List Int) : List Int) = y277 at H
 have Ny277 := Aside0.mk e_.symm
 clear e_
 have H' := Aside0.mk H
 clear H
 go_enter Tryd.func64, Tryd.ntmps64
 go_wp2_with (first | ((with_reducible refine gate_dst (N := 14) rfl ?_); refine Kd.R_lit (Kd.int .u8) _ 5 ?hg (N := 14) ?hd (xs := ([(Int.tmod (wrap64 ((Int.tmod a0 256) + 256)) 256) % 256] : List Int)) (inner := [.int .u8 ((Int.tmod (wrap64 ((Int.tmod a0 256) + 256)) 256) % 256)]) (ok := fun _ => True) (okp := fun _ => True) ?hr ?hp (fun _ hk => hk) trivial (Below.refl _ _) (Nat.le_refl _) (by simp) ?_; (case hd => rfl); (case hg => rfl); (case hr => exact gr_); (case hp => exact (Reps.one (show Kd.M (Kd.int .u8) _ _ _ ((Int.tmod (wrap64 ((Int.tmod a0 256) + 256)) 256) % 256) [.int .u8 ((Int.tmod (wrap64 ((Int.tmod a0 256) + 256)) 256) % 256)] from rfl) (Reps.none _ _))); intro v278 w3 ho4 hb hg_ hnew_; clear hg_ hnew_; (first | rw [← Ny277.out] at ho4 | (simp only [Int.reduceToNat] at ho4; rw [← Ny277.out] at ho4)); have HO279 := Aside0.mk (Kd.R_lower ho4 (below_size bl_)); replace HB := Aside0.mk (below_step bl_ hb); clear hb ho4))
 go_loopg [5, 6] k (fun kq v5 v6 w' => ∃ (x5_1 : List Int) (x6_1 : Int), v6 = .int .i64 x6_1 ∧ Aside0 (palaverref02_Input.l0 kq l1 x5_1 x6_1 = some r) ∧ Aside0 (kq ≤ k) ∧ Aside0 (Kd.R (Kd.int .u8) 5 w' w.heap.size (fun _ => True) v5 x5_1) ∧ Aside0 (Below w.heap.size w w'))
 case atStart => exact ⟨(y277), (0), vq_, H', ⟨Nat.le_refl _⟩, ⟨mv_ HO279.out⟩, ⟨bl_⟩⟩
 case round =>
  clear H'
  obtain ⟨x5_1, x6_1, rfl, HA, HK1, HO_5, HB⟩ := hrel
  cases gk with
  | zero => exact absurd HA.out (by simp [palaverref02_Input.l0])
  | succ k1 =>
   have H := HA.out
   clear HA
   simp only [palaverref02_Input.l0] at H
   by_cases c5 : x6_1 < (l1.length : Int)
   ·rw [if_pos c5] at H
    have c5b0 : decide (x6_1 < (l1.length : Int)) = true := decide_eq_true c5
    clear c5
    revert H; refine nd_ fun c6 c6b0 H => ?_
    clear c6
    replace H := ob_ H
    obtain ⟨⟨t281, t282⟩, A70, H⟩ := H
    replace H : (if x5_1.length + t281.size < 140737488355328 then ((some (x5_1 ++ bytesOf t281 : List Int)).bind fun y283 => (if y283.length + (rdOf ByteArray.empty l1 x6_1).size < 140737488355328 then (palaverref02_Input.l0 k1 l1 (y283 ++ bytesOf (rdOf ByteArray.empty l1 x6_1)) (wrap64 (x6_1 + 1))) else (none))) else (none)) = some r := H
    have A7 := Aside0.mk A70
    clear A70
    revert H; refine nc_ fun c8 => oy_ fun y283 Ny283 => nc_ fun c9 H => ?_
    have LMc8 := Aside0.mk c8
    have LMc9 := Aside0.mk c9
    clear c8 c9
    generalize e_ : (y283 ++ bytesOf (rdOf ByteArray.empty l1 x6_1) : List Int) = y287 at H
    have Ny287 := Aside0.mk e_.symm
    clear e_
    have H' := Aside0.mk H
    clear H
    have p280 : 0 ≤ (x6_1 : Int) := ae_
    have q280 : x6_1 < (l1.length : Int) := ae_
    obtain ⟨ad280, e280, hx280_0⟩ := Kd.at_string HR1.out x6_1 p280 q280
    cases e280
    replace hx280_0 := (HB.out.cell (World.block_lt_of_cell? w _ hx280_0)).trans hx280_0
    replace p280 := eq_true p280
    replace q280 := eq_true q280
    go_wp2_with (first | ((with_reducible refine gate_callee (f := 32) rfl ?_); refine gL_ 27 Tryd.func32 #[.int .i64 ((rdOf ByteArray.empty l1 x6_1).size : Int), .int .i64 4] ?_; (with_reducible refine (palaverref01_Number.calls k1 ((rdOf ByteArray.empty l1 x6_1).size : Int) 4 t281 t282 _ A7.out).mono ?_); rintro e w10 ⟨rfl, hb⟩; refine ⟨_, rfl, ?_⟩; replace HB := Aside0.mk (below_step bl_ hb); replace HO_5 := Aside0.mk (Kd.R_below (mv_ HO_5.out) hb); clear hb) | (at_builtin; refine print_append_str (w0 := w) w.heap.size rfl (.tmp 30) _ 91 9 5 rfl Tryd.underlying91 Tryd.underlying9 info5 u5 x5_1 t281 rfl rfl ?aO ?aB ?aS ?aL ?_; (case aB => exact bl_); (case aO => exact (Kd.own_of_R (mv_ HO_5.out))); (case aS => exact (below_size bl_)); (case aL => have := LMc8.out; omega); intro v284 w11 ho0 hb hg; have ho := Kd.R_of_own (h1 := fun _ => rfl) (ok := fun _ => True) ho0 (fun _ _ => trivial); clear ho0; have hat := True.intro; rw [← Ny283.out] at ho; change Kd.R (Kd.int .u8) 5 w11 w.heap.size (fun _ => True) v284 y283 at ho; have HO285 := Aside0.mk (ho); replace HB := Aside0.mk (hb); clear HO_5; clear ho hb hg hat; have p286 : 0 ≤ (x6_1 : Int) := ae_; have q286 : x6_1 < (l1.length : Int) := ae_; obtain ⟨ad286, e286, hx286_0⟩ := Kd.at_string HR1.out x6_1 p286 q286; obtain rfl : ad280 = ad286 := (by injection e286); replace hx286_0 := (HB.out.cell (World.block_lt_of_cell? w _ hx286_0)).trans hx286_0; replace p286 := eq_true p286; replace q286 := eq_true q286) | (at_builtin; refine print_append_str (w0 := w) w.heap.size rfl (.tmp 33) _ 91 9 5 rfl Tryd.underlying91 Tryd.underlying9 info5 v284 y283 (rdOf ByteArray.empty l1 x6_1) rfl rfl ?aO ?aB ?aS ?aL ?_; (case aB => exact bl_); (case aO => exact (Kd.own_of_R (mv_ HO285.out))); (case aS => exact (below_size bl_)); (case aL => have := LMc9.out; omega); intro v288 w12 ho0 hb hg; have ho := Kd.R_of_own (h1 := fun _ => rfl) (ok := fun _ => True) ho0 (fun _ _ => trivial); clear ho0; have hat := True.intro; rw [← Ny287.out] at ho; change Kd.R (Kd.int .u8) 5 w12 w.heap.size (fun _ => True) v288 y287 at ho; have HO289 := Aside0.mk (ho); replace HB := Aside0.mk (hb); clear HO285; clear ho hb hg hat))
    go_roundg k1
    case measure => have := HK1.out; omega
    case rel => exact ⟨(y287), (wrap64 (x6_1 + 1)), vq_, H', ⟨by have := HK1.out; omega⟩, ⟨mv_ HO289.out⟩, ⟨bl_⟩⟩
   rw [if_neg c5] at H
   have c5b0 : decide (x6_1 < (l1.length : Int)) = false := decide_eq_false c5
   clear c5
   obtain rfl := Option.some.inj H
   have hcv13 := own_string (P := Tryd.prog) Tryd.underlying91 Tryd.underlying5 Tryd.underlying9 (Kd.own_of_R HO_5.out)
   go_wp2
   go_ret
   exact ⟨er_, bl_⟩

/-! ### palaverref02_Tag: function 34 -/
def palaverref02_Tag.f (k : Nat) (a0 : Int) (l1 : List ByteArray) : Option (ByteArray) := (palaverref02_Input.f k a0 l1).bind fun t290 => ((palaverref02_Sum.f k t290).bind fun t291 => (some t291))
theorem palaverref02_Tag.mono : ∀ a0 a1 k, LeO (palaverref02_Tag.f k a0 a1) (palaverref02_Tag.f (k + 1) a0 a1) := by
 intro a0 a1 k
 unfold palaverref02_Tag.f
 repeat' first
  | (with_reducible exact palaverref02_Input.mono _ _ _)
  | (with_reducible exact palaverref02_Sum.mono _ _)
  | (with_reducible exact LeO.refl _)
  | (with_reducible exact LeO.none _)
  | (with_reducible refine LeO.ite ?_ ?_)
  | (with_reducible refine LeO.bind ?_ (fun _ => ?_))
  | exact palaverref02_Input.mono _ _ _
  | exact palaverref02_Sum.mono _ _
  | exact LeO.none _
  | refine LeO.ite ?_ ?_
  | refine LeO.bind ?_ (fun _ => ?_)
set_option maxHeartbeats 64000000 in
set_option maxRecDepth 100000 in
theorem palaverref02_Tag.calls (k : Nat) (a0 : Int) (A1 : Option Addr) (c1 : Nat) (l1 : List ByteArray) (r : ByteArray) (w : World) (hr1 : Kd.C Kd.string w A1 l1.length l1) (hc1 : l1.length ≤ c1) (h : palaverref02_Tag.f k a0 l1 = some r) :
 Calls Tryd.prog 34 #[.int .i64 a0, .slice A1 l1.length c1] w fun e w' => e = .returned (.string r) ∧ Below w.heap.size w w' := by
 have HR1 := Aside0.mk hr1
 have HC1 := Aside0.mk hc1
 clear hr1 hc1
 have HB := Aside0.mk (Below.refl w.heap.size w)
 have H : ((palaverref02_Input.f k a0 l1).bind fun t290 => ((palaverref02_Sum.f k t290).bind fun t291 => (some t291))) = some r := h
 clear h
 revert H; refine oa_ fun t290 A3 => oa_ fun t291 A4 H => ?_
 obtain rfl := Option.some.inj H
 go_enter Tryd.func34, Tryd.ntmps34
 go_wp2_with (first | ((with_reducible refine gate_callee (f := 64) rfl ?_); refine gL_ 7 Tryd.func64 #[.int .i64 a0, .slice A1 l1.length c1] ?_; (with_reducible refine (palaverref02_Input.calls k a0 _ _ l1 t290 _ ?side1 ?side2 A3.out).mono ?_); (case side1 => repeat (first | exact HR1.out | (with_reducible refine Kd.C_alloc ?_ _) | (with_reducible refine Kd.C_drewN ?_ _) | (with_reducible refine Kd.C_drew ?_))); (case side2 => exact HC1.out); rintro e w5 ⟨rfl, hb⟩; refine ⟨_, rfl, ?_⟩; replace HB := Aside0.mk (below_step bl_ hb); clear hb) | ((with_reducible refine gate_callee (f := 63) rfl ?_); refine gL_ 8 Tryd.func63 #[.string t290] ?_; (with_reducible refine (palaverref02_Sum.calls k t290 t291 _ A4.out).mono ?_); rintro e w6 ⟨rfl, hb⟩; refine ⟨_, rfl, ?_⟩; replace HB := Aside0.mk (below_step bl_ hb); clear hb))
 go_ret
 exact ⟨er_, bl_⟩

/-! ### palaverref03_Step: function 78 -/
def palaverref03_Step.f (k : Nat) (a0 : Int) (a1 : ByteArray) : Option (ByteArray) := (palaverref01_Number.f k (Int.tmod (wrap64 ((Int.tmod a0 256) + 256)) 256) 1).bind fun bt292 => ((palaverref02_Tag.f k 1 (([bt292.1, a1] : List ByteArray))).bind fun t297 => (some t297))
theorem palaverref03_Step.mono : ∀ a0 a1 k, LeO (palaverref03_Step.f k a0 a1) (palaverref03_Step.f (k + 1) a0 a1) := by
 intro a0 a1 k
 unfold palaverref03_Step.f
 repeat' first
  | (with_reducible exact palaverref01_Number.mono _ _ _)
  | (with_reducible exact palaverref02_Tag.mono _ _ _)
  | (with_reducible exact LeO.refl _)
  | (with_reducible exact LeO.none _)
  | (with_reducible refine LeO.ite ?_ ?_)
  | (with_reducible refine LeO.bind ?_ (fun _ => ?_))
  | exact palaverref01_Number.mono _ _ _
  | exact palaverref02_Tag.mono _ _ _
  | exact LeO.none _
  | refine LeO.ite ?_ ?_
  | refine LeO.bind ?_ (fun _ => ?_)
set_option maxHeartbeats 64000000 in
set_option maxRecDepth 100000 in
theorem palaverref03_Step.calls (k : Nat) (a0 : Int) (a1 : ByteArray) (r : ByteArray) (w : World) (h : palaverref03_Step.f k a0 a1 = some r) :
 Calls Tryd.prog 78 #[.int .i64 a0, .string a1] w fun e w' => e = .returned (.string r) ∧ Below w.heap.size w w' := by
 have HB := Aside0.mk (Below.refl w.heap.size w)
 have H : ((palaverref01_Number.f k (Int.tmod (wrap64 ((Int.tmod a0 256) + 256)) 256) 1).bind fun bt292 => ((palaverref02_Tag.f k 1 (([bt292.1, a1] : List ByteArray))).bind fun t297 => (some t297))) = some r := h
 clear h
 replace H := ob_ H
 obtain ⟨⟨t292, t293⟩, A30, H⟩ := H
 replace H : ((palaverref02_Tag.f k 1 (([t292, a1] : List ByteArray))).bind fun t297 => (some t297)) = some r := H
 have A3 := Aside0.mk A30
 clear A30
 generalize e_ : (([t292, a1] : List ByteArray) : List ByteArray) = y294 at H
 have Ny294 := Aside0.mk e_.symm
 clear e_
 revert H; refine oa_ fun t297 A4 H => ?_
 obtain rfl := Option.some.inj H
 go_enter Tryd.func78, Tryd.ntmps78
 go_wp2_with (first | ((with_reducible refine gate_callee (f := 32) rfl ?_); refine gL_ 12 Tryd.func32 #[.int .i64 (Int.tmod (wrap64 ((Int.tmod a0 256) + 256)) 256), .int .i64 1] ?_; (with_reducible refine (palaverref01_Number.calls k (Int.tmod (wrap64 ((Int.tmod a0 256) + 256)) 256) 1 t292 t293 _ A3.out).mono ?_); rintro e w5 ⟨rfl, hb⟩; refine ⟨_, rfl, ?_⟩; replace HB := Aside0.mk (below_step bl_ hb); clear hb) | ((with_reducible refine gate_dst (N := 17) rfl ?_); refine Kd.R_lit Kd.string _ 9 ?hg (N := 17) ?hd (xs := ([t292, a1] : List ByteArray)) (inner := [.string t292, .string a1]) (ok := fun _ => True) (okp := fun _ => True) ?hr ?hp (fun _ hk => hk) trivial (Below.refl _ _) (Nat.le_refl _) (by simp) ?_; (case hd => rfl); (case hg => rfl); (case hr => exact gr_); (case hp => exact (Reps.one (show Kd.M Kd.string _ _ _ t292 [.string t292] from rfl) (Reps.one (show Kd.M Kd.string _ _ _ a1 [.string a1] from rfl) (Reps.none _ _)))); intro v295 w6 ho7 hb hg_ hnew_; clear hg_ hnew_; (first | rw [← Ny294.out] at ho7 | (simp only [Int.reduceToNat] at ho7; rw [← Ny294.out] at ho7)); have HO296 := Aside0.mk (Kd.R_lower ho7 (below_size bl_)); replace HB := Aside0.mk (below_step bl_ hb); clear hb ho7; obtain ⟨Ao8, co8, eo8⟩ := Kd.R_slice HO296.out; subst eo8) | ((with_reducible refine gate_callee (f := 34) rfl ?_); refine gL_ 18 Tryd.func34 #[.int .i64 1, .slice Ao8 y294.length co8] ?_; (with_reducible refine (palaverref02_Tag.calls k 1 _ _ y294 t297 _ ?side1 ?side2 A4.out).mono ?_); (case side1 => repeat (first | exact (Kd.R_reads' HO296.out).2.2 | (with_reducible refine Kd.C_alloc ?_ _) | (with_reducible refine Kd.C_drewN ?_ _) | (with_reducible refine Kd.C_drew ?_))); (case side2 => exact (Kd.R_reads' HO296.out).2.1); rintro e w9 ⟨rfl, hb⟩; refine ⟨_, rfl, ?_⟩; replace HB := Aside0.mk (below_step bl_ hb); replace HO296 := Aside0.mk (Kd.R_below (mv_ HO296.out) hb); clear hb))
 go_ret
 exact ⟨er_, bl_⟩

/-! ### palaverref03_Chain: function 61 -/
def palaverref03_Chain.l0 : Nat → Int → ByteArray → Int → Int → Option (ByteArray)
 | 0, _, _, _, _ => none
 | k + 1, x0, x1, x2, x7 => if x7 < x2 then (if x7 < 1000 then ((palaverref03_Step.f k x0 x1).bind fun t298 => (palaverref03_Chain.l0 k x0 t298 x2 (wrap64 (x7 + 1)))) else (some x1)) else (some x1)
def palaverref03_Chain.f (k : Nat) (a0 : Int) (a1 : ByteArray) (a2 : Int) : Option (ByteArray) := palaverref03_Chain.l0 k a0 a1 a2 0
theorem palaverref03_Chain.mono_l : ∀ k, (∀ y0 y1 y2 y3, LeO (palaverref03_Chain.l0 k y0 y1 y2 y3) (palaverref03_Chain.l0 (k + 1) y0 y1 y2 y3))
 | 0 => fun _ _ _ _ r h => by simp [palaverref03_Chain.l0] at h
 | k + 1 => by
  have ih0 := palaverref03_Chain.mono_l k
  ·intro y0 y1 y2 y3
   unfold palaverref03_Chain.l0
   repeat' first
   | (with_reducible exact ih0 _ _ _ _)
   | (with_reducible exact palaverref03_Step.mono _ _ _)
   | (with_reducible exact LeO.refl _)
   | (with_reducible exact LeO.none _)
   | (with_reducible refine LeO.ite ?_ ?_)
   | (with_reducible refine LeO.bind ?_ (fun _ => ?_))
   | exact ih0 _ _ _ _
   | exact palaverref03_Step.mono _ _ _
   | exact LeO.none _
   | refine LeO.ite ?_ ?_
   | refine LeO.bind ?_ (fun _ => ?_)
theorem palaverref03_Chain.mono : ∀ a0 a1 a2 k, LeO (palaverref03_Chain.f k a0 a1 a2) (palaverref03_Chain.f (k + 1) a0 a1 a2) := by
 intro a0 a1 a2 k
 have ih0 := palaverref03_Chain.mono_l k
 unfold palaverref03_Chain.f
 repeat' first
  | (with_reducible exact ih0 _ _ _ _)
  | (with_reducible exact palaverref03_Step.mono _ _ _)
  | (with_reducible exact LeO.refl _)
  | (with_reducible exact LeO.none _)
  | (with_reducible refine LeO.ite ?_ ?_)
  | (with_reducible refine LeO.bind ?_ (fun _ => ?_))
  | exact ih0 _ _ _ _
  | exact palaverref03_Step.mono _ _ _
  | exact LeO.none _
  | refine LeO.ite ?_ ?_
  | refine LeO.bind ?_ (fun _ => ?_)
set_option maxHeartbeats 64000000 in
set_option maxRecDepth 100000 in
theorem palaverref03_Chain.calls (k : Nat) (a0 : Int) (a1 : ByteArray) (a2 : Int) (r : ByteArray) (w : World) (h : palaverref03_Chain.f k a0 a1 a2 = some r) :
 Calls Tryd.prog 61 #[.int .i64 a0, .string a1, .int .i64 a2] w fun e w' => e = .returned (.string r) ∧ Below w.heap.size w w' := by
 have HB := Aside0.mk (Below.refl w.heap.size w)
 have H : (palaverref03_Chain.l0 k a0 a1 a2 0) = some r := h
 clear h
 have H' := Aside0.mk H
 clear H
 go_enter Tryd.func61, Tryd.ntmps61
 go_wp2
 go_loopg [1, 7] k (fun kq v1 v7 w' => ∃ (x1_1 : ByteArray) (x7_1 : Int), v1 = .string x1_1 ∧ v7 = .int .i64 x7_1 ∧ Aside0 (palaverref03_Chain.l0 kq a0 x1_1 a2 x7_1 = some r) ∧ Aside0 (kq ≤ k) ∧ Aside0 (Below w.heap.size w w'))
 case atStart => exact ⟨(a1), (0), vq_, vq_, H', ⟨Nat.le_refl _⟩, ⟨bl_⟩⟩
 case round =>
  clear H'
  (try clear p2)
  obtain ⟨x1_1, x7_1, rfl, rfl, HA, HK1, HB⟩ := hrel
  cases gk with
  | zero => exact absurd HA.out (by simp [palaverref03_Chain.l0])
  | succ k1 =>
   have H := HA.out
   clear HA
   simp only [palaverref03_Chain.l0] at H
   by_cases c4 : x7_1 < a2
   ·rw [if_pos c4] at H
    have c4b0 : decide (x7_1 < a2) = true := decide_eq_true c4
    clear c4
    by_cases c5 : x7_1 < 1000
    ·rw [if_pos c5] at H
     have c5b0 : decide (x7_1 < 1000) = true := decide_eq_true c5
     clear c5
     revert H; refine oa_ fun t298 A6 H => ?_
     have H' := Aside0.mk H
     clear H
     go_wp2_with (first | ((with_reducible refine gate_callee (f := 78) rfl ?_); refine gL_ 19 Tryd.func78 #[.int .i64 a0, .string x1_1] ?_; (with_reducible refine (palaverref03_Step.calls k1 a0 x1_1 t298 _ A6.out).mono ?_); rintro e w7 ⟨rfl, hb⟩; refine ⟨_, rfl, ?_⟩; replace HB := Aside0.mk (below_step bl_ hb); (try clear hb); (try clear hb2); (try clear hk); (try clear hi)))
     go_roundg k1
     case measure => have := HK1.out; omega
     case rel => exact ⟨(t298), (wrap64 (x7_1 + 1)), vq_, vq_, H', ⟨by have := HK1.out; omega⟩, ⟨bl_⟩⟩
    rw [if_neg c5] at H
    have c5b0 : decide (x7_1 < 1000) = false := decide_eq_false c5
    clear c5
    obtain rfl := Option.some.inj H
    go_wp2
    go_ret
    exact ⟨er_, bl_⟩
   rw [if_neg c4] at H
   have c4b0 : decide (x7_1 < a2) = false := decide_eq_false c4
   clear c4
   obtain rfl := Option.some.inj H
   go_wp2
   go_ret
   exact ⟨er_, bl_⟩

/-! ### palaverref03_Secret: function 62 -/
def palaverref03_Secret.f (k : Nat) (a0 : ByteArray) (a1 : Int) (a2 : Int) : Option (ByteArray) := (palaverref01_Number.f k a1 2).bind fun bt299 => ((palaverref01_Number.f k a2 1).bind fun bt301 => ((palaverref02_Tag.f k 2 (([a0, bt299.1, bt301.1] : List ByteArray))).bind fun t306 => (some t306)))
theorem palaverref03_Secret.mono : ∀ a0 a1 a2 k, LeO (palaverref03_Secret.f k a0 a1 a2) (palaverref03_Secret.f (k + 1) a0 a1 a2) := by
 intro a0 a1 a2 k
 unfold palaverref03_Secret.f
 repeat' first
  | (with_reducible exact palaverref01_Number.mono _ _ _)
  | (with_reducible exact palaverref02_Tag.mono _ _ _)
  | (with_reducible exact LeO.refl _)
  | (with_reducible exact LeO.none _)
  | (with_reducible refine LeO.ite ?_ ?_)
  | (with_reducible refine LeO.bind ?_ (fun _ => ?_))
  | exact palaverref01_Number.mono _ _ _
  | exact palaverref02_Tag.mono _ _ _
  | exact LeO.none _
  | refine LeO.ite ?_ ?_
  | refine LeO.bind ?_ (fun _ => ?_)
set_option maxHeartbeats 64000000 in
set_option maxRecDepth 100000 in
theorem palaverref03_Secret.calls (k : Nat) (a0 : ByteArray) (a1 : Int) (a2 : Int) (r : ByteArray) (w : World) (h : palaverref03_Secret.f k a0 a1 a2 = some r) :
 Calls Tryd.prog 62 #[.string a0, .int .i64 a1, .int .i64 a2] w fun e w' => e = .returned (.string r) ∧ Below w.heap.size w w' := by
 have HB := Aside0.mk (Below.refl w.heap.size w)
 have H : ((palaverref01_Number.f k a1 2).bind fun bt299 => ((palaverref01_Number.f k a2 1).bind fun bt301 => ((palaverref02_Tag.f k 2 (([a0, bt299.1, bt301.1] : List ByteArray))).bind fun t306 => (some t306)))) = some r := h
 clear h
 replace H := ob_ H
 obtain ⟨⟨t299, t300⟩, A40, H⟩ := H
 replace H : ((palaverref01_Number.f k a2 1).bind fun bt301 => ((palaverref02_Tag.f k 2 (([a0, t299, bt301.1] : List ByteArray))).bind fun t306 => (some t306))) = some r := H
 have A4 := Aside0.mk A40
 clear A40
 replace H := ob_ H
 obtain ⟨⟨t301, t302⟩, A50, H⟩ := H
 replace H : ((palaverref02_Tag.f k 2 (([a0, t299, t301] : List ByteArray))).bind fun t306 => (some t306)) = some r := H
 have A5 := Aside0.mk A50
 clear A50
 generalize e_ : (([a0, t299, t301] : List ByteArray) : List ByteArray) = y303 at H
 have Ny303 := Aside0.mk e_.symm
 clear e_
 revert H; refine oa_ fun t306 A6 H => ?_
 obtain rfl := Option.some.inj H
 go_enter Tryd.func62, Tryd.ntmps62
 go_wp2_with (first | ((with_reducible refine gate_callee (f := 32) rfl ?_); refine gL_ 13 Tryd.func32 #[.int .i64 a1, .int .i64 2] ?_; (with_reducible refine (palaverref01_Number.calls k a1 2 t299 t300 _ A4.out).mono ?_); rintro e w7 ⟨rfl, hb⟩; refine ⟨_, rfl, ?_⟩; replace HB := Aside0.mk (below_step bl_ hb); (try clear hb); (try clear hb2); (try clear hk); (try clear hi)) | ((with_reducible refine gate_callee (f := 32) rfl ?_); refine gL_ 18 Tryd.func32 #[.int .i64 a2, .int .i64 1] ?_; (with_reducible refine (palaverref01_Number.calls k a2 1 t301 t302 _ A5.out).mono ?_); rintro e w8 ⟨rfl, hb⟩; refine ⟨_, rfl, ?_⟩; replace HB := Aside0.mk (below_step bl_ hb); (try clear hb); (try clear hb2); (try clear hk); (try clear hi)) | ((with_reducible refine gate_dst (N := 24) rfl ?_); refine Kd.R_lit Kd.string _ 9 ?hg (N := 24) ?hd (xs := ([a0, t299, t301] : List ByteArray)) (inner := [.string a0, .string t299, .string t301]) (ok := fun _ => True) (okp := fun _ => True) ?hr ?hp (fun _ hk => hk) trivial (Below.refl _ _) (Nat.le_refl _) (by simp) ?_; (case hd => rfl); (case hg => rfl); (case hr => exact gr_); (case hp => exact (Reps.one (show Kd.M Kd.string _ _ _ a0 [.string a0] from rfl) (Reps.one (show Kd.M Kd.string _ _ _ t299 [.string t299] from rfl) (Reps.one (show Kd.M Kd.string _ _ _ t301 [.string t301] from rfl) (Reps.none _ _))))); intro v304 w9 ho10 hb hg_ hnew_; clear hg_ hnew_; (first | rw [← Ny303.out] at ho10 | (simp only [Int.reduceToNat] at ho10; rw [← Ny303.out] at ho10)); have HO305 := Aside0.mk (Kd.R_lower ho10 (below_size bl_)); replace HB := Aside0.mk (below_step bl_ hb); clear hb ho10; obtain ⟨Ao11, co11, eo11⟩ := Kd.R_slice HO305.out; subst eo11) | ((with_reducible refine gate_callee (f := 34) rfl ?_); refine gL_ 25 Tryd.func34 #[.int .i64 2, .slice Ao11 y303.length co11] ?_; (with_reducible refine (palaverref02_Tag.calls k 2 _ _ y303 t306 _ ?side1 ?side2 A6.out).mono ?_); (case side1 => repeat (first | exact (Kd.R_reads' HO305.out).2.2 | (with_reducible refine Kd.C_alloc ?_ _) | (with_reducible refine Kd.C_drewN ?_ _) | (with_reducible refine Kd.C_drew ?_))); (case side2 => exact (Kd.R_reads' HO305.out).2.1); rintro e w12 ⟨rfl, hb⟩; refine ⟨_, rfl, ?_⟩; replace HB := Aside0.mk (below_step bl_ hb); replace HO305 := Aside0.mk (Kd.R_below (mv_ HO305.out) hb); (try clear hb); (try clear hb2); (try clear hk); (try clear hi)))
 go_ret
 exact ⟨er_, bl_⟩

/-! ### palaverref03_Public: function 43 -/
def palaverref03_Public.l0 : Nat → ByteArray → Int → List ByteArray → Int → Option (ByteArray)
 | 0, _, _, _, _ => none
 | k + 1, x0, x1, x5, x6 => if x6 < 67 then ((palaverref03_Secret.f k x0 x1 x6).bind fun t307 => ((palaverref03_Chain.f k x6 t307 15).bind fun t308 => (if x5.length < 8796093022208 then (palaverref03_Public.l0 k x0 x1 (x5 ++ [t308]) (wrap64 (x6 + 1))) else (none)))) else ((palaverref02_Tag.f k 3 x5).bind fun t312 => (some t312))
def palaverref03_Public.f (k : Nat) (a0 : ByteArray) (a1 : Int) : Option (ByteArray) := palaverref03_Public.l0 k a0 a1 ([] : List ByteArray) 0
theorem palaverref03_Public.mono_l : ∀ k, (∀ y0 y1 y2 y3, LeO (palaverref03_Public.l0 k y0 y1 y2 y3) (palaverref03_Public.l0 (k + 1) y0 y1 y2 y3))
 | 0 => fun _ _ _ _ r h => by simp [palaverref03_Public.l0] at h
 | k + 1 => by
  have ih0 := palaverref03_Public.mono_l k
  ·intro y0 y1 y2 y3
   unfold palaverref03_Public.l0
   repeat' first
   | (with_reducible exact ih0 _ _ _ _)
   | (with_reducible exact palaverref02_Tag.mono _ _ _)
   | (with_reducible exact palaverref03_Chain.mono _ _ _ _)
   | (with_reducible exact palaverref03_Secret.mono _ _ _ _)
   | (with_reducible exact LeO.refl _)
   | (with_reducible exact LeO.none _)
   | (with_reducible refine LeO.ite ?_ ?_)
   | (with_reducible refine LeO.bind ?_ (fun _ => ?_))
   | exact ih0 _ _ _ _
   | exact palaverref02_Tag.mono _ _ _
   | exact palaverref03_Chain.mono _ _ _ _
   | exact palaverref03_Secret.mono _ _ _ _
   | exact LeO.none _
   | refine LeO.ite ?_ ?_
   | refine LeO.bind ?_ (fun _ => ?_)
theorem palaverref03_Public.mono : ∀ a0 a1 k, LeO (palaverref03_Public.f k a0 a1) (palaverref03_Public.f (k + 1) a0 a1) := by
 intro a0 a1 k
 have ih0 := palaverref03_Public.mono_l k
 unfold palaverref03_Public.f
 repeat' first
  | (with_reducible exact ih0 _ _ _ _)
  | (with_reducible exact palaverref02_Tag.mono _ _ _)
  | (with_reducible exact palaverref03_Chain.mono _ _ _ _)
  | (with_reducible exact palaverref03_Secret.mono _ _ _ _)
  | (with_reducible exact LeO.refl _)
  | (with_reducible exact LeO.none _)
  | (with_reducible refine LeO.ite ?_ ?_)
  | (with_reducible refine LeO.bind ?_ (fun _ => ?_))
  | exact ih0 _ _ _ _
  | exact palaverref02_Tag.mono _ _ _
  | exact palaverref03_Chain.mono _ _ _ _
  | exact palaverref03_Secret.mono _ _ _ _
  | exact LeO.none _
  | refine LeO.ite ?_ ?_
  | refine LeO.bind ?_ (fun _ => ?_)
set_option maxHeartbeats 64000000 in
set_option maxRecDepth 100000 in
theorem palaverref03_Public.calls (k : Nat) (a0 : ByteArray) (a1 : Int) (r : ByteArray) (w : World) (h : palaverref03_Public.f k a0 a1 = some r) :
 Calls Tryd.prog 43 #[.string a0, .int .i64 a1] w fun e w' => e = .returned (.string r) ∧ Below w.heap.size w w' := by
 have HB := Aside0.mk (Below.refl w.heap.size w)
 have H : (palaverref03_Public.l0 k a0 a1 ([] : List ByteArray) 0) = some r := h
 clear h
 have H' := Aside0.mk H
 clear H
 go_enter Tryd.func43, Tryd.ntmps43
 go_wp2
 go_loopg [5, 6] k (fun kq v5 v6 w' => ∃ (x5_1 : List ByteArray) (x6_1 : Int), v6 = .int .i64 x6_1 ∧ Aside0 (palaverref03_Public.l0 kq a0 a1 x5_1 x6_1 = some r) ∧ Aside0 (kq ≤ k) ∧ Aside0 (Kd.R Kd.string 9 w' w.heap.size (fun _ => True) v5 x5_1) ∧ Aside0 (Below w.heap.size w w'))
 case atStart => exact ⟨(([] : List ByteArray)), (0), vq_, H', ⟨Nat.le_refl _⟩, ⟨by first | exact Kd.R_nil _ _ _ _ _ | exact Kd.N_nil _ _ _ _ _ | exact Kd.V_nil _ _ _ _ _ | exact Kd.Q_nil _ _ _ _ _ | exact Kd.S_nil _ _ _ _ _⟩, ⟨bl_⟩⟩
 case round =>
  clear H'
  (try clear p2)
  obtain ⟨x5_1, x6_1, rfl, HA, HK1, HO_5, HB⟩ := hrel
  cases gk with
  | zero => exact absurd HA.out (by simp [palaverref03_Public.l0])
  | succ k1 =>
   have H := HA.out
   clear HA
   simp only [palaverref03_Public.l0] at H
   by_cases c3 : x6_1 < 67
   ·rw [if_pos c3] at H
    have c3b0 : decide (x6_1 < 67) = true := decide_eq_true c3
    clear c3
    revert H; refine oa_ fun t307 A4 => oa_ fun t308 A5 => nc_ fun c6 H => ?_
    have LMc6 := Aside0.mk c6
    clear c6
    generalize e_ : (x5_1 ++ [t308] : List ByteArray) = y309 at H
    have Ny309 := Aside0.mk e_.symm
    clear e_
    have H' := Aside0.mk H
    clear H
    go_wp2_with (first | ((with_reducible refine gate_callee (f := 62) rfl ?_); refine gL_ 16 Tryd.func62 #[.string a0, .int .i64 a1, .int .i64 x6_1] ?_; (with_reducible refine (palaverref03_Secret.calls k1 a0 a1 x6_1 t307 _ A4.out).mono ?_); rintro e w7 ⟨rfl, hb⟩; refine ⟨_, rfl, ?_⟩; replace HB := Aside0.mk (below_step bl_ hb); replace HO_5 := Aside0.mk (Kd.R_below (mv_ HO_5.out) hb); (try clear hb); (try clear hb2); (try clear hk); (try clear hi)) | ((with_reducible refine gate_callee (f := 61) rfl ?_); refine gL_ 17 Tryd.func61 #[.int .i64 x6_1, .string t307, .int .i64 15] ?_; (with_reducible refine (palaverref03_Chain.calls k1 x6_1 t307 15 t308 _ A5.out).mono ?_); rintro e w8 ⟨rfl, hb⟩; refine ⟨_, rfl, ?_⟩; replace HB := Aside0.mk (below_step bl_ hb); replace HO_5 := Aside0.mk (Kd.R_below (mv_ HO_5.out) hb); (try clear hb); (try clear hb2); (try clear hk); (try clear hi)) | ((with_reducible refine gate_builtin (b := .append) (xs := #[.tmp 11, .tmp 18]) rfl ?_); at_builtin; refine Kd.R_append Kd.string (w0 := w) w.heap.size rfl (.tmp 11) (.tmp 18) 53 9 (.string ⟨#[]⟩) 16 rfl Tryd.underlying53 info9 rfl (by decide) (by omega) u5 x5_1 t308 [.string t308] (fun _ => True) (fun _ => False) rfl rfl ?aP (fun _ hk => hk.elim) ?aF ?aO ?aB ?aS ?aL ?_; (case aP => exact rfl); (case aB => exact bl_); (case aF => exact (fun _ _ => trivial)); (case aO => exact (mv_ HO_5.out)); (case aS => exact (below_size bl_)); (case aL => have := LMc6.out; omega); intro v310 w9 ho hb hg hat; rw [← Ny309.out] at ho; have HO311 := Aside0.mk (ho); replace HB := Aside0.mk (hb); clear HO_5; clear ho hb hg hat))
    go_roundg k1
    case measure => have := HK1.out; omega
    case rel => exact ⟨(y309), (wrap64 (x6_1 + 1)), vq_, H', ⟨by have := HK1.out; omega⟩, ⟨mv_ HO311.out⟩, ⟨bl_⟩⟩
   rw [if_neg c3] at H
   have c3b0 : decide (x6_1 < 67) = false := decide_eq_false c3
   clear c3
   revert H; refine oa_ fun t312 A10 H => ?_
   obtain rfl := Option.some.inj H
   obtain ⟨Ao11, co11, eo11⟩ := Kd.R_slice HO_5.out
   subst eo11
   go_wp2_with (first | ((with_reducible refine gate_callee (f := 34) rfl ?_); refine gL_ 21 Tryd.func34 #[.int .i64 3, .slice Ao11 x5_1.length co11] ?_; (with_reducible refine (palaverref02_Tag.calls k1 3 _ _ x5_1 t312 _ ?side1 ?side2 A10.out).mono ?_); (case side1 => repeat (first | exact (Kd.R_reads' HO_5.out).2.2 | (with_reducible refine Kd.C_alloc ?_ _) | (with_reducible refine Kd.C_drewN ?_ _) | (with_reducible refine Kd.C_drew ?_))); (case side2 => exact (Kd.R_reads' HO_5.out).2.1); rintro e w12 ⟨rfl, hb⟩; refine ⟨_, rfl, ?_⟩; replace HB := Aside0.mk (below_step bl_ hb); replace HO_5 := Aside0.mk (Kd.R_below (mv_ HO_5.out) hb); (try clear hb); (try clear hb2); (try clear hk); (try clear hi)))
   go_ret
   exact ⟨er_, bl_⟩

/-! ### palaverref05_Leaves: function 23 -/
mutual
def palaverref05_Leaves.l0 : Nat → ByteArray → Int → Int → Int → Option (List ByteArray)
 | 0, _, _, _, _ => none
 | k + 1, x0, x1, x6, x7 => if x7 < x1 then (palaverref05_Leaves.l0 k x0 x1 (wrap64 (2 * x6)) (wrap64 (x7 + 1))) else (palaverref05_Leaves.l1 k x0 ([] : List ByteArray) x6 0)
def palaverref05_Leaves.l1 : Nat → ByteArray → List ByteArray → Int → Int → Option (List ByteArray)
 | 0, _, _, _, _ => none
 | k + 1, x0, x5, x6, x8 => if x8 < x6 then ((palaverref03_Public.f k x0 x8).bind fun t313 => (if x5.length < 8796093022208 then (palaverref05_Leaves.l1 k x0 (x5 ++ [t313]) x6 (wrap64 (x8 + 1))) else (none))) else (some x5)
end
def palaverref05_Leaves.f (k : Nat) (a0 : ByteArray) (a1 : Int) : Option (List ByteArray) := palaverref05_Leaves.l0 k a0 a1 1 0
theorem palaverref05_Leaves.mono_l : ∀ k, (∀ y0 y1 y2 y3, LeO (palaverref05_Leaves.l0 k y0 y1 y2 y3) (palaverref05_Leaves.l0 (k + 1) y0 y1 y2 y3)) ∧ (∀ y0 y1 y2 y3, LeO (palaverref05_Leaves.l1 k y0 y1 y2 y3) (palaverref05_Leaves.l1 (k + 1) y0 y1 y2 y3))
 | 0 => ⟨fun _ _ _ _ r h => by simp [palaverref05_Leaves.l0] at h, fun _ _ _ _ r h => by simp [palaverref05_Leaves.l1] at h⟩
 | k + 1 => by
  obtain ⟨ih0, ih1⟩ := palaverref05_Leaves.mono_l k
  refine ⟨?_, ?_⟩ <;> intros <;> (first | unfold palaverref05_Leaves.l0 | unfold palaverref05_Leaves.l1) <;> repeat' first
  | (with_reducible exact ih0 _ _ _ _)
  | (with_reducible exact ih1 _ _ _ _)
  | (with_reducible exact palaverref03_Public.mono _ _ _)
  | (with_reducible exact LeO.refl _)
  | (with_reducible exact LeO.none _)
  | (with_reducible refine LeO.ite ?_ ?_)
  | (with_reducible refine LeO.bind ?_ (fun _ => ?_))
  | exact ih0 _ _ _ _
  | exact ih1 _ _ _ _
  | exact palaverref03_Public.mono _ _ _
  | exact LeO.none _
  | refine LeO.ite ?_ ?_
  | refine LeO.bind ?_ (fun _ => ?_)
theorem palaverref05_Leaves.mono : ∀ a0 a1 k, LeO (palaverref05_Leaves.f k a0 a1) (palaverref05_Leaves.f (k + 1) a0 a1) := by
 intro a0 a1 k
 obtain ⟨ih0, ih1⟩ := palaverref05_Leaves.mono_l k
 unfold palaverref05_Leaves.f
 repeat' first
  | (with_reducible exact ih0 _ _ _ _)
  | (with_reducible exact ih1 _ _ _ _)
  | (with_reducible exact palaverref03_Public.mono _ _ _)
  | (with_reducible exact LeO.refl _)
  | (with_reducible exact LeO.none _)
  | (with_reducible refine LeO.ite ?_ ?_)
  | (with_reducible refine LeO.bind ?_ (fun _ => ?_))
  | exact ih0 _ _ _ _
  | exact ih1 _ _ _ _
  | exact palaverref03_Public.mono _ _ _
  | exact LeO.none _
  | refine LeO.ite ?_ ?_
  | refine LeO.bind ?_ (fun _ => ?_)
set_option maxHeartbeats 64000000 in
set_option maxRecDepth 100000 in
theorem palaverref05_Leaves.calls (k : Nat) (a0 : ByteArray) (a1 : Int) (r : List ByteArray) (w : World) (h : palaverref05_Leaves.f k a0 a1 = some r) :
 Calls Tryd.prog 23 #[.string a0, .int .i64 a1] w fun e w' => ∃ v0_ : Value, e = .returned (v0_) ∧ Kd.R Kd.string 9 w' w.heap.size (fun _ => True) v0_ r ∧ Below w.heap.size w w' := by
 have HB := Aside0.mk (Below.refl w.heap.size w)
 have H : (palaverref05_Leaves.l0 k a0 a1 1 0) = some r := h
 clear h
 have H' := Aside0.mk H
 clear H
 go_enter Tryd.func23, Tryd.ntmps23
 go_wp2
 go_loopg [6, 7] k (fun kq v6 v7 w' => ∃ (x6_1 : Int) (x7_1 : Int), v6 = .int .i64 x6_1 ∧ v7 = .int .i64 x7_1 ∧ Aside0 (palaverref05_Leaves.l0 kq a0 a1 x6_1 x7_1 = some r) ∧ Aside0 (kq ≤ k) ∧ Aside0 (Below w.heap.size w w'))
 case atStart => exact ⟨(1), (0), vq_, vq_, H', ⟨Nat.le_refl _⟩, ⟨bl_⟩⟩
 case round =>
  clear H'
  (try clear c2); (try clear p2)
  obtain ⟨x6_1, x7_1, rfl, rfl, HA, HK1, HB⟩ := hrel
  cases gk with
  | zero => exact absurd HA.out (by simp [palaverref05_Leaves.l0])
  | succ k1 =>
   have H := HA.out
   clear HA
   simp only [palaverref05_Leaves.l0] at H
   by_cases c3 : x7_1 < a1
   ·rw [if_pos c3] at H
    have c3b0 : decide (x7_1 < a1) = true := decide_eq_true c3
    clear c3
    have H' := Aside0.mk H
    clear H
    go_wp2
    go_roundg k1
    case measure => have := HK1.out; omega
    case rel => exact ⟨(wrap64 (2 * x6_1)), (wrap64 (x7_1 + 1)), vq_, vq_, H', ⟨by have := HK1.out; omega⟩, ⟨bl_⟩⟩
   rw [if_neg c3] at H
   have c3b0 : decide (x7_1 < a1) = false := decide_eq_false c3
   clear c3
   have H' := Aside0.mk H
   clear H
   go_wp2
   go_loopg [5, 8] k1 (fun kq v5 v8 w' => ∃ (x5_2 : List ByteArray) (x8_2 : Int), v8 = .int .i64 x8_2 ∧ Aside0 (palaverref05_Leaves.l1 kq a0 x5_2 x6_1 x8_2 = some r) ∧ Aside0 (kq ≤ k1) ∧ Aside0 (Kd.R Kd.string 9 w' w.heap.size (fun _ => True) v5 x5_2) ∧ Aside0 (Below w.heap.size w w'))
   case atStart => exact ⟨(([] : List ByteArray)), (0), vq_, H', ⟨Nat.le_refl _⟩, ⟨by first | exact Kd.R_nil _ _ _ _ _ | exact Kd.N_nil _ _ _ _ _ | exact Kd.V_nil _ _ _ _ _ | exact Kd.Q_nil _ _ _ _ _ | exact Kd.S_nil _ _ _ _ _⟩, ⟨bl_⟩⟩
   case round =>
    clear H'
    (try clear c2); (try clear p2); (try clear c3); (try clear c3b0); (try clear p2)
    obtain ⟨x5_2, x8_2, rfl, HA, HK2, HO_5, HB⟩ := hrel
    cases gk with
    | zero => exact absurd HA.out (by simp [palaverref05_Leaves.l1])
    | succ k2 =>
     have H := HA.out
     clear HA
     simp only [palaverref05_Leaves.l1] at H
     by_cases c4 : x8_2 < x6_1
     ·rw [if_pos c4] at H
      have c4b0 : decide (x8_2 < x6_1) = true := decide_eq_true c4
      clear c4
      revert H; refine oa_ fun t313 A5 => nc_ fun c6 H => ?_
      have LMc6 := Aside0.mk c6
      clear c6
      generalize e_ : (x5_2 ++ [t313] : List ByteArray) = y314 at H
      have Ny314 := Aside0.mk e_.symm
      clear e_
      have H' := Aside0.mk H
      clear H
      go_wp2_with (first | ((with_reducible refine gate_callee (f := 43) rfl ?_); refine gL_ 24 Tryd.func43 #[.string a0, .int .i64 x8_2] ?_; (with_reducible refine (palaverref03_Public.calls k2 a0 x8_2 t313 _ A5.out).mono ?_); rintro e w7 ⟨rfl, hb⟩; refine ⟨_, rfl, ?_⟩; replace HB := Aside0.mk (below_step bl_ hb); replace HO_5 := Aside0.mk (Kd.R_below (mv_ HO_5.out) hb); (try clear hb); (try clear hb2); (try clear hk); (try clear hi)) | ((with_reducible refine gate_builtin (b := .append) (xs := #[.tmp 21, .tmp 25]) rfl ?_); at_builtin; refine Kd.R_append Kd.string (w0 := w) w.heap.size rfl (.tmp 21) (.tmp 25) 53 9 (.string ⟨#[]⟩) 16 rfl Tryd.underlying53 info9 rfl (by decide) (by omega) u5 x5_2 t313 [.string t313] (fun _ => True) (fun _ => False) rfl rfl ?aP (fun _ hk => hk.elim) ?aF ?aO ?aB ?aS ?aL ?_; (case aP => exact rfl); (case aB => exact bl_); (case aF => exact (fun _ _ => trivial)); (case aO => exact (mv_ HO_5.out)); (case aS => exact (below_size bl_)); (case aL => have := LMc6.out; omega); intro v315 w8 ho hb hg hat; rw [← Ny314.out] at ho; have HO316 := Aside0.mk (ho); replace HB := Aside0.mk (hb); clear HO_5; clear ho hb hg hat))
      go_roundg k2
      case measure => have := HK1.out; have := HK2.out; omega
      case rel => exact ⟨(y314), (wrap64 (x8_2 + 1)), vq_, H', ⟨by have := HK1.out; have := HK2.out; omega⟩, ⟨mv_ HO316.out⟩, ⟨bl_⟩⟩
     rw [if_neg c4] at H
     have c4b0 : decide (x8_2 < x6_1) = false := decide_eq_false c4
     clear c4
     obtain rfl := Option.some.inj H
     go_wp2
     go_ret
     exact ⟨_, er_, mv_ HO_5.out, bl_⟩

/-! ### palaverref03_Digits: function 60 -/
mutual
def palaverref03_Digits.l0 : Nat → ByteArray → List Int → Int → Int → Option (List Int)
 | 0, _, _, _, _ => none
 | k + 1, x0, x3, x4, x5 => if x5 < (x0.size : Int) then (if 0 ≤ x5 then ((some (([wrap64 (Int.tdiv (wrap64 (bt x0 x5)) 16), Int.tmod (wrap64 (bt x0 x5)) 16] : List Int) : List Int)).bind fun y317 => (if x3.length + y317.length < 17592186044416 then (palaverref03_Digits.l0 k x0 (x3 ++ y317) x4 (wrap64 (x5 + 1))) else (none))) else (none)) else (palaverref03_Digits.l1 k x3 x4 0)
def palaverref03_Digits.l1 : Nat → List Int → Int → Int → Option (List Int)
 | 0, _, _, _ => none
 | k + 1, x3, x4, x6 => if x6 < (x3.length : Int) then (if 0 ≤ x6 then (palaverref03_Digits.l1 k x3 (wrap64 ((wrap64 (x4 + 15)) - (rd x3 x6))) (wrap64 (x6 + 1))) else (none)) else ((some (([wrap64 (Int.tdiv x4 256), Int.tmod (wrap64 (Int.tdiv x4 16)) 16, Int.tmod x4 16] : List Int) : List Int)).bind fun y324 => (if x3.length + y324.length < 17592186044416 then (some (x3 ++ y324)) else (none)))
end
def palaverref03_Digits.f (k : Nat) (a0 : ByteArray) : Option (List Int) := palaverref03_Digits.l0 k a0 ([] : List Int) 0 0
theorem palaverref03_Digits.mono_l : ∀ k, (∀ y0 y1 y2 y3, LeO (palaverref03_Digits.l0 k y0 y1 y2 y3) (palaverref03_Digits.l0 (k + 1) y0 y1 y2 y3)) ∧ (∀ y0 y1 y2, LeO (palaverref03_Digits.l1 k y0 y1 y2) (palaverref03_Digits.l1 (k + 1) y0 y1 y2))
 | 0 => ⟨fun _ _ _ _ r h => by simp [palaverref03_Digits.l0] at h, fun _ _ _ r h => by simp [palaverref03_Digits.l1] at h⟩
 | k + 1 => by
  obtain ⟨ih0, ih1⟩ := palaverref03_Digits.mono_l k
  refine ⟨?_, ?_⟩ <;> intros <;> (first | unfold palaverref03_Digits.l0 | unfold palaverref03_Digits.l1) <;> repeat' first
  | (with_reducible exact ih0 _ _ _ _)
  | (with_reducible exact ih1 _ _ _)
  | (with_reducible exact LeO.refl _)
  | (with_reducible exact LeO.none _)
  | (with_reducible refine LeO.ite ?_ ?_)
  | (with_reducible refine LeO.bind ?_ (fun _ => ?_))
  | exact ih0 _ _ _ _
  | exact ih1 _ _ _
  | exact LeO.none _
  | refine LeO.ite ?_ ?_
  | refine LeO.bind ?_ (fun _ => ?_)
theorem palaverref03_Digits.mono : ∀ a0 k, LeO (palaverref03_Digits.f k a0) (palaverref03_Digits.f (k + 1) a0) := by
 intro a0 k
 obtain ⟨ih0, ih1⟩ := palaverref03_Digits.mono_l k
 unfold palaverref03_Digits.f
 repeat' first
  | (with_reducible exact ih0 _ _ _ _)
  | (with_reducible exact ih1 _ _ _)
  | (with_reducible exact LeO.refl _)
  | (with_reducible exact LeO.none _)
  | (with_reducible refine LeO.ite ?_ ?_)
  | (with_reducible refine LeO.bind ?_ (fun _ => ?_))
  | exact ih0 _ _ _ _
  | exact ih1 _ _ _
  | exact LeO.none _
  | refine LeO.ite ?_ ?_
  | refine LeO.bind ?_ (fun _ => ?_)
def palaverref03_Digits.T6 : Bool × List (List Nat × List Nat) := (true, [([], []), ([], []), ([], []), ([1, 2], [1, 2]), ([3], [3]), ([4], [4]), ([], []), ([], []), ([6, 7], [6, 7]), ([8], [8]), ([9], [9]), ([5, 10], [5, 10]), ([0, 11], [0, 11]), ([12, 12, 0, 1, 2, 3, 4, 5, 6, 7, 8, 9, 10, 11, 12], [0, 12])])
def palaverref03_Digits.B6 : List Nat := [0, 0, 0, 6, 14, 30, 0, 0, 192, 448, 960, 2046, 4095, 8191]
theorem palaverref03_Digits.tab6 : rtab .any (opsOf Tryd.f60 6) = palaverref03_Digits.T6 := by kernel_rfl
theorem palaverref03_Digits.bits6 : waitsOk palaverref03_Digits.T6.2 palaverref03_Digits.B6 = true := by kernel_rfl
set_option maxHeartbeats 64000000 in
set_option maxRecDepth 100000 in
theorem palaverref03_Digits.calls (k : Nat) (a0 : ByteArray) (r : List Int) (w : World) (h : palaverref03_Digits.f k a0 = some r) :
 Calls Tryd.prog 60 #[.string a0] w fun e w' => ∃ v0_ : Value, e = .returned (v0_) ∧ Kd.R (Kd.int .i64) 3 w' w.heap.size (fun _ => True) v0_ r ∧ Below w.heap.size w w' := by
 have HB := Aside0.mk (Below.refl w.heap.size w)
 have H : (palaverref03_Digits.l0 k a0 ([] : List Int) 0 0) = some r := h
 clear h
 have H' := Aside0.mk H
 clear H
 go_enter Tryd.func60, Tryd.ntmps60
 go_wp2
 go_loopg [3, 5] k (fun kq v3 v5 w' => ∃ (x3_1 : List Int) (x5_1 : Int), v5 = .int .i64 x5_1 ∧ Aside0 (palaverref03_Digits.l0 kq a0 x3_1 0 x5_1 = some r) ∧ Aside0 (kq ≤ k) ∧ Aside0 (Kd.R (Kd.int .i64) 3 w' w.heap.size (fun _ => True) v3 x3_1) ∧ Aside0 (Below w.heap.size w w'))
 case atStart => exact ⟨(([] : List Int)), (0), vq_, H', ⟨Nat.le_refl _⟩, ⟨by first | exact Kd.R_nil _ _ _ _ _ | exact Kd.N_nil _ _ _ _ _ | exact Kd.V_nil _ _ _ _ _ | exact Kd.Q_nil _ _ _ _ _ | exact Kd.S_nil _ _ _ _ _⟩, ⟨bl_⟩⟩
 case round =>
  clear H'
  obtain ⟨x3_1, x5_1, rfl, HA, HK1, HO_3, HB⟩ := hrel
  cases gk with
  | zero => exact absurd HA.out (by simp [palaverref03_Digits.l0])
  | succ k1 =>
   have H := HA.out
   clear HA
   simp only [palaverref03_Digits.l0] at H
   by_cases c2 : x5_1 < (a0.size : Int)
   ·rw [if_pos c2] at H
    have c2b0 : decide (x5_1 < (a0.size : Int)) = true := decide_eq_true c2
    clear c2
    revert H; refine nd_ fun c3 c3b0 => oy_ fun y317 Ny317 => nc_ fun c6 H => ?_
    have LMc6 := Aside0.mk c6
    clear c3 c6
    generalize e_ : (x3_1 ++ y317 : List Int) = y320 at H
    have Ny320 := Aside0.mk e_.symm
    clear e_
    have H' := Aside0.mk H
    clear H
    try go_wp2
    replace HB := Aside0.mk (below_drew1 HB.out)
    replace HO_3 := Aside0.mk (Kd.R_drew HO_3.out)
    have p4 := eq_true (ae_ : 0 ≤ (x5_1 : Int))
    have q4 := eq_true (ae_ : x5_1 < (a0.size : Int))
    have hx4 := bt_at a0 x5_1
    have p5 := eq_true (ae_ : 0 ≤ (x5_1 : Int))
    have q5 := eq_true (ae_ : x5_1 < (a0.size : Int))
    have hx5 := bt_at a0 x5_1
    refine start_ (n := 14) (S := fun w' => True) (ds := []) #[false, false, false, false, false, false, false, false, false, false, false, false, false, false] (by kernel_rfl) rfl rfl trivial (fun hHeld => ?_); refine with_tabW palaverref03_Digits.tab6 palaverref03_Digits.bits6 (fun HT_ HW_ => ?_)
    generalize wr.drew = w7 at HO_3 HB hHeld ⊢
    refine runs_ [(0, some 13), (1, some 14), (2, some 15), (6, some 19), (7, some 20)] ?_
    iterate 5 (refine pL_ ?_)
    refine runsE_ ?_
    refine take_ (i := 3) (N := some 16) (v := ?_) (a' := ?_) #[true, true, true, true, false, false, true, true, false, false, false, false, false, false] rfl rfl (take_ofW HT_.out HW_.out (by kernel_rfl)) (fun _ _ _ h => h) (Or.inl ⟨by rfl, ?_⟩) hHeld ?_ ?_
    rotate_left
    ·intro w' _
     go_simp
     with_reducible rfl
    rotate_left
    ·simp only [pr_]
     rfl
    refine runs_ [(4, some 17), (5, some 18)] ?_
    iterate 2 (refine pL_ ?_)
    refine runsE_ ?_
    refine take_ (i := 8) (N := some 21) (v := ?_) (a' := ?_) #[true, true, true, true, true, true, true, true, true, false, false, false, false, false] rfl rfl (take_ofW HT_.out HW_.out (by kernel_rfl)) (fun _ _ _ h => h) (Or.inl ⟨by rfl, ?_⟩) hHeld ?_ ?_
    rotate_left
    ·intro w' _
     go_simp
     with_reducible rfl
    rotate_left
    ·simp only [pr_]
     rfl
    refine runs_ [(9, some 22), (10, some 23)] ?_
    iterate 2 (refine pL_ ?_)
    refine runsE_ ?_
    refine one_ (i := 11) (N := some 24) #[true, true, true, true, true, true, true, true, true, true, true, true, false, false] rfl rfl (one_of HT_.out (by kernel_rfl)) (by decide) (fun K hK => ?_)
    refine Kd.R_lit_step (Kd.int .i64) _ 3 ?hg (N := 24) ?hd (xs := ([wrap64 (Int.tdiv (wrap64 (bt a0 x5_1)) 16), Int.tmod (wrap64 (bt a0 x5_1)) 16] : List Int)) (inner := [.int .i64 (wrap64 (Int.tdiv (wrap64 (bt a0 x5_1)) 16)), .int .i64 (Int.tmod (wrap64 (bt a0 x5_1)) 16)]) (ok := fun _ => True) (okp := fun _ => True) ?hr ?hp (fun _ hk => hk) trivial (Below.refl _ _) (Nat.le_refl _) (by simp) ?_; (case hd => rfl); (case hg => rfl); (case hr => exact gr_); (case hp => exact (Reps.one (show Kd.M (Kd.int .i64) _ _ _ (wrap64 (Int.tdiv (wrap64 (bt a0 x5_1)) 16)) [.int .i64 (wrap64 (Int.tdiv (wrap64 (bt a0 x5_1)) 16))] from rfl) (Reps.one (show Kd.M (Kd.int .i64) _ _ _ (Int.tmod (wrap64 (bt a0 x5_1)) 16) [.int .i64 (Int.tmod (wrap64 (bt a0 x5_1)) 16)] from rfl) (Reps.none _ _))))
    intro v318 w8 ho9 hb hg_ hnew_
    clear hg_ hnew_
    (first | rw [← Ny317.out] at ho9 | (simp only [Int.reduceToNat] at ho9; rw [← Ny317.out] at ho9))
    have HO319 := Aside0.mk (Kd.R_lower (Kd.R_new' ho9 (Kd.R_lt (mv_ HO_3.out))) (below_size bl_))
    replace HB := Aside0.mk (below_step bl_ hb)
    replace HO_3 := Aside0.mk (Kd.R_elder' (mv_ HO_3.out) (Kd.R_base ho9) hb)
    clear hb ho9
    obtain ⟨Ao11, co11, eo11⟩ := Kd.R_slice HO319.out
    (first | subst eo11 | (injection eo11 with f1_ f2_ f3_; have f4_ := f1_.symm; have f5_ := f3_.symm; clear f1_ f2_ f3_; subst f4_; subst f5_))
    refine hK.out _ _ trivial (fun hHeld => ?_)
    clear hK K
    refine norm_ (a' := ?_) ?_ ?_
    rotate_left
    ·show Act.put _ (some 24) _ = _
     simp only [pr_]
     rfl
    refine one_ (i := 12) (N := some 25) #[true, true, true, true, true, true, true, true, true, true, true, true, true, false] rfl rfl (one_of HT_.out (by kernel_rfl)) (by decide) (fun K hK => ?_)
    refine Kd.R_append_rows_step (Kd.int .i64) (w0 := w) w.heap.size (by rfl) (.tmp 13) (.tmp 24) 85 3 (.int .i64 0) 8 rfl Tryd.underlying85 info3 rfl (by decide) (by omega) u3 x3_1 y317 _ _ _ (fun k_ => some k_ ≠ (.slice Ao11 y317.length co11 : Value).ownBlock) (fun _ => False) rfl rfl ?aO ?aR (fun _ _ h => h) (fun _ h => h.elim) ?aF ?aB ?aS ?aL ?_
    (case aR => repeat (first | exact (Kd.R_reads' HO319.out).2.2 | (with_reducible refine Kd.C_alloc ?_ _) | (with_reducible refine Kd.C_drewN ?_ _) | (with_reducible refine Kd.C_drew ?_)))
    (case aB => exact bl_)
    (case aF => exact (fun k_ hk => Kd.fresh' (Kd.R_lt (mv_ HO319.out)) k_ hk))
    (case aO => exact (by refine mv_ ?_; exact Kd.R_mono HO_3.out (fun _ hk => hk.2)))
    (case aS => exact (below_size bl_))
    (case aL => have := LMc6.out; omega)
    intro v321 w10 ho hb hg hat
    rw [← Ny320.out] at ho
    have HO322 := Aside0.mk (ho)
    replace HB := Aside0.mk (hb)
    replace HO319 := Aside0.mk (Kd.R_after (ok := (fun _ => True)) (mv_ HO319.out) hg hat)
    clear HO_3
    clear ho hb hg hat
    refine hK.out _ _ trivial (fun hHeld => ?_)
    clear hK K
    refine norm_ (a' := ?_) ?_ ?_
    rotate_left
    ·show Act.put _ (some 25) _ = _
     simp only [pr_]
     rfl
    refine pure_ (i := 13) (N := some 3) (v := ?_) (a' := ?_) #[true, true, true, true, true, true, true, true, true, true, true, true, true, true] rfl rfl (any_of HT_.out (by kernel_rfl)) (fun _ _ _ h => h) (Or.inl ⟨by rfl, ?_⟩) ?_ ?_
    rotate_left
    ·intro w'
     go_simp
     with_reducible rfl
    rotate_left
    ·simp only [pr_]
     rfl
    refine done_ (done_of HT_.out (by kernel_rfl)) ?_
    try go_wp2
    go_roundg k1
    case measure => have := HK1.out; omega
    case rel => exact ⟨(y320), (wrap64 (x5_1 + 1)), vq_, H', ⟨by have := HK1.out; omega⟩, ⟨by refine mv_ ?_; exact Kd.R_mono HO322.out (fun _ hk => trivial)⟩, ⟨bl_⟩⟩
   rw [if_neg c2] at H
   have c2b0 : decide (x5_1 < (a0.size : Int)) = false := decide_eq_false c2
   clear c2
   have H' := Aside0.mk H
   clear H
   go_wp2
   go_loopg [4, 6] k1 (fun kq v4 v6 w' => ∃ (x4_2 : Int) (x6_2 : Int), v4 = .int .i64 x4_2 ∧ v6 = .int .i64 x6_2 ∧ Aside0 (palaverref03_Digits.l1 kq x3_1 x4_2 x6_2 = some r) ∧ Aside0 (kq ≤ k1) ∧ Aside0 (Kd.R (Kd.int .i64) 3 w' w.heap.size (fun _ => True) u3 x3_1) ∧ Aside0 (Below w.heap.size w w'))
   case atStart => exact ⟨(0), (0), vq_, vq_, H', ⟨Nat.le_refl _⟩, ⟨mv_ HO_3.out⟩, ⟨bl_⟩⟩
   case round =>
    clear H'
    (try clear c2); (try clear c2b0); (try clear p2); (try clear c3); (try clear c3b0); (try clear p4); (try clear q4); (try clear hx4); (try clear p5); (try clear q5); (try clear hx5); (try clear c6); (try clear p6); (try clear p4); (try clear p5); (try clear q4); (try clear q5)
    obtain ⟨x4_2, x6_2, rfl, rfl, HA, HK2, HO_3, HB⟩ := hrel
    cases gk with
    | zero => exact absurd HA.out (by simp [palaverref03_Digits.l1])
    | succ k2 =>
     have H := HA.out
     clear HA
     simp only [palaverref03_Digits.l1] at H
     by_cases c12 : x6_2 < (x3_1.length : Int)
     ·rw [if_pos c12] at H
      have c12b0 : decide (x6_2 < (x3_1.length : Int)) = true := decide_eq_true c12
      clear c12
      revert H; refine nd_ fun c13 c13b0 H => ?_
      clear c13
      have H' := Aside0.mk H
      clear H
      obtain ⟨Ao14, co14, eo14⟩ := Kd.R_slice HO_3.out
      subst eo14
      have p323 : 0 ≤ (x6_2 : Int) := ae_
      have q323 : x6_2 < (x3_1.length : Int) := ae_
      obtain ⟨ad323, e323, hx323_0⟩ := Kd.at_int (Kd.R_reads' HO_3.out).2.2 x6_2 p323 q323
      cases e323
      replace p323 := eq_true p323
      replace q323 := eq_true q323
      go_wp2
      go_roundg k2
      case measure => have := HK1.out; have := HK2.out; omega
      case rel => exact ⟨(wrap64 ((wrap64 (x4_2 + 15)) - (rd x3_1 x6_2))), (wrap64 (x6_2 + 1)), vq_, vq_, H', ⟨by have := HK1.out; have := HK2.out; omega⟩, ⟨mv_ HO_3.out⟩, ⟨bl_⟩⟩
     rw [if_neg c12] at H
     have c12b0 : decide (x6_2 < (x3_1.length : Int)) = false := decide_eq_false c12
     clear c12
     revert H; refine oy_ fun y324 Ny324 => nc_ fun c15 H => ?_
     have LMc15 := Aside0.mk c15
     clear c15
     generalize e_ : (x3_1 ++ y324 : List Int) = y327 at H
     have Ny327 := Aside0.mk e_.symm
     clear e_
     obtain rfl := Option.some.inj H
     obtain ⟨Ao16, co16, eo16⟩ := Kd.R_slice HO_3.out
     subst eo16
     go_wp2_with (first | ((with_reducible refine gate_dst (N := 47) rfl ?_); refine Kd.R_lit (Kd.int .i64) _ 3 ?hg (N := 47) ?hd (xs := ([wrap64 (Int.tdiv x4_2 256), Int.tmod (wrap64 (Int.tdiv x4_2 16)) 16, Int.tmod x4_2 16] : List Int)) (inner := [.int .i64 (wrap64 (Int.tdiv x4_2 256)), .int .i64 (Int.tmod (wrap64 (Int.tdiv x4_2 16)) 16), .int .i64 (Int.tmod x4_2 16)]) (ok := fun _ => True) (okp := fun _ => True) ?hr ?hp (fun _ hk => hk) trivial (Below.refl _ _) (Nat.le_refl _) (by simp) ?_; (case hd => rfl); (case hg => rfl); (case hr => exact gr_); (case hp => exact (Reps.one (show Kd.M (Kd.int .i64) _ _ _ (wrap64 (Int.tdiv x4_2 256)) [.int .i64 (wrap64 (Int.tdiv x4_2 256))] from rfl) (Reps.one (show Kd.M (Kd.int .i64) _ _ _ (Int.tmod (wrap64 (Int.tdiv x4_2 16)) 16) [.int .i64 (Int.tmod (wrap64 (Int.tdiv x4_2 16)) 16)] from rfl) (Reps.one (show Kd.M (Kd.int .i64) _ _ _ (Int.tmod x4_2 16) [.int .i64 (Int.tmod x4_2 16)] from rfl) (Reps.none _ _))))); intro v325 w17 ho18 hb hg_ hnew_; clear hg_ hnew_; (first | rw [← Ny324.out] at ho18 | (simp only [Int.reduceToNat] at ho18; rw [← Ny324.out] at ho18)); have HO326 := Aside0.mk (Kd.R_lower (Kd.R_new' ho18 (Kd.R_lt (mv_ HO_3.out))) (below_size bl_)); replace HB := Aside0.mk (below_step bl_ hb); replace HO_3 := Aside0.mk (Kd.R_elder' (mv_ HO_3.out) (Kd.R_base ho18) hb); clear hb ho18; obtain ⟨Ao20, co20, eo20⟩ := Kd.R_slice HO326.out; subst eo20) | ((with_reducible refine gate_builtin (b := .append) (xs := #[.tmp 39, .tmp 47]) rfl ?_); at_builtin; refine Kd.R_append_rows (Kd.int .i64) (w0 := w) w.heap.size rfl (.tmp 39) (.tmp 47) 85 3 (.int .i64 0) 8 rfl Tryd.underlying85 info3 rfl (by decide) (by omega) (.slice Ao16 x3_1.length co16) x3_1 y324 _ _ _ (fun k_ => some k_ ≠ (.slice Ao20 y324.length co20 : Value).ownBlock) (fun _ => False) rfl rfl ?aO ?aR (fun _ _ h => h) (fun _ h => h.elim) ?aF ?aB ?aS ?aL ?_; (case aR => repeat (first | exact (Kd.R_reads' HO326.out).2.2 | (with_reducible refine Kd.C_alloc ?_ _) | (with_reducible refine Kd.C_drewN ?_ _) | (with_reducible refine Kd.C_drew ?_))); (case aB => exact bl_); (case aF => exact (fun k_ hk => Kd.fresh' (Kd.R_lt (mv_ HO326.out)) k_ hk)); (case aO => exact (by refine mv_ ?_; exact Kd.R_mono HO_3.out (fun _ hk => hk.2))); (case aS => exact (below_size bl_)); (case aL => have := LMc15.out; omega); intro v328 w19 ho hb hg hat; rw [← Ny327.out] at ho; have HO329 := Aside0.mk (ho); replace HB := Aside0.mk (hb); replace HO326 := Aside0.mk (Kd.R_after (ok := (fun _ => True)) (mv_ HO326.out) hg hat); clear HO_3; clear ho hb hg hat))
     go_ret
     exact ⟨_, er_, by refine mv_ ?_; exact Kd.R_mono HO329.out (fun _ hk => trivial), bl_⟩

/-! ### palaverref03_Sign: function 33 -/
def palaverref03_Sign.l0 : Nat → ByteArray → Int → List Int → List ByteArray → Int → Option (List ByteArray)
 | 0, _, _, _, _, _ => none
 | k + 1, x0, x1, x7, x8, x9 => if x9 < 67 then ((palaverref03_Secret.f k x0 x1 x9).bind fun t333 => (if 0 ≤ x9 then (if x9 < (x7.length : Int) then ((palaverref03_Chain.f k x9 t333 (rd x7 x9)).bind fun t335 => (if x8.length < 8796093022208 then (palaverref03_Sign.l0 k x0 x1 x7 (x8 ++ [t335]) (wrap64 (x9 + 1))) else (none))) else (none)) else (none))) else (some x8)
def palaverref03_Sign.f (k : Nat) (a0 : ByteArray) (a1 : Int) (a2 : ByteArray) : Option (List ByteArray) := (palaverref03_Digits.f k a2).bind fun t330 => (palaverref03_Sign.l0 k a0 a1 t330 ([] : List ByteArray) 0)
theorem palaverref03_Sign.mono_l : ∀ k, (∀ y0 y1 y2 y3 y4, LeO (palaverref03_Sign.l0 k y0 y1 y2 y3 y4) (palaverref03_Sign.l0 (k + 1) y0 y1 y2 y3 y4))
 | 0 => fun _ _ _ _ _ r h => by simp [palaverref03_Sign.l0] at h
 | k + 1 => by
  have ih0 := palaverref03_Sign.mono_l k
  ·intro y0 y1 y2 y3 y4
   unfold palaverref03_Sign.l0
   repeat' first
   | (with_reducible exact ih0 _ _ _ _ _)
   | (with_reducible exact palaverref03_Chain.mono _ _ _ _)
   | (with_reducible exact palaverref03_Digits.mono _ _)
   | (with_reducible exact palaverref03_Secret.mono _ _ _ _)
   | (with_reducible exact LeO.refl _)
   | (with_reducible exact LeO.none _)
   | (with_reducible refine LeO.ite ?_ ?_)
   | (with_reducible refine LeO.bind ?_ (fun _ => ?_))
   | exact ih0 _ _ _ _ _
   | exact palaverref03_Chain.mono _ _ _ _
   | exact palaverref03_Digits.mono _ _
   | exact palaverref03_Secret.mono _ _ _ _
   | exact LeO.none _
   | refine LeO.ite ?_ ?_
   | refine LeO.bind ?_ (fun _ => ?_)
theorem palaverref03_Sign.mono : ∀ a0 a1 a2 k, LeO (palaverref03_Sign.f k a0 a1 a2) (palaverref03_Sign.f (k + 1) a0 a1 a2) := by
 intro a0 a1 a2 k
 have ih0 := palaverref03_Sign.mono_l k
 unfold palaverref03_Sign.f
 repeat' first
  | (with_reducible exact ih0 _ _ _ _ _)
  | (with_reducible exact palaverref03_Chain.mono _ _ _ _)
  | (with_reducible exact palaverref03_Digits.mono _ _)
  | (with_reducible exact palaverref03_Secret.mono _ _ _ _)
  | (with_reducible exact LeO.refl _)
  | (with_reducible exact LeO.none _)
  | (with_reducible refine LeO.ite ?_ ?_)
  | (with_reducible refine LeO.bind ?_ (fun _ => ?_))
  | exact ih0 _ _ _ _ _
  | exact palaverref03_Chain.mono _ _ _ _
  | exact palaverref03_Digits.mono _ _
  | exact palaverref03_Secret.mono _ _ _ _
  | exact LeO.none _
  | refine LeO.ite ?_ ?_
  | refine LeO.bind ?_ (fun _ => ?_)
def palaverref03_Sign.T6 : Bool × List (List Nat × List Nat) := (true, [([], []), ([], []), ([], []), ([], []), ([], []), ([2, 3, 4], [2, 3, 4]), ([], []), ([], []), ([6, 7], [6, 7]), ([8], [8]), ([1, 5, 9, 5], [1, 5, 9]), ([10], [10]), ([0, 11, 10], [0, 11]), ([12, 12, 0, 1, 2, 3, 4, 5, 6, 7, 8, 9, 10, 11, 12], [0, 12])])
def palaverref03_Sign.B6 : List Nat := [0, 0, 0, 0, 0, 28, 0, 0, 192, 448, 1022, 2046, 4095, 8191]
theorem palaverref03_Sign.tab6 : rtab .any (opsOf Tryd.f33 6) = palaverref03_Sign.T6 := by kernel_rfl
theorem palaverref03_Sign.bits6 : waitsOk palaverref03_Sign.T6.2 palaverref03_Sign.B6 = true := by kernel_rfl
set_option maxHeartbeats 64000000 in
set_option maxRecDepth 100000 in
theorem palaverref03_Sign.calls (k : Nat) (a0 : ByteArray) (a1 : Int) (a2 : ByteArray) (r : List ByteArray) (w : World) (h : palaverref03_Sign.f k a0 a1 a2 = some r) :
 Calls Tryd.prog 33 #[.string a0, .int .i64 a1, .string a2] w fun e w' => ∃ v0_ : Value, e = .returned (v0_) ∧ Kd.R Kd.string 9 w' w.heap.size (fun _ => True) v0_ r ∧ Below w.heap.size w w' := by
 have HB := Aside0.mk (Below.refl w.heap.size w)
 have H : ((palaverref03_Digits.f k a2).bind fun t330 => (palaverref03_Sign.l0 k a0 a1 t330 ([] : List ByteArray) 0)) = some r := h
 clear h
 revert H; refine oa_ fun t330 A4 H => ?_
 have H' := Aside0.mk H
 clear H
 go_enter Tryd.func33, Tryd.ntmps33
 go_wp2_with (first | ((with_reducible refine gate_callee (f := 60) rfl ?_); refine gL_ 11 Tryd.func60 #[.string a2] ?_; (with_reducible refine (palaverref03_Digits.calls k a2 t330 _ A4.out).mono ?_); rintro e w5 ⟨v331, rfl, ho0, hb⟩; refine ⟨_, rfl, ?_⟩; have HO332 := Aside0.mk (Kd.R_lower ho0 (below_size bl_)); replace HB := Aside0.mk (below_step bl_ hb); (try clear hb); (try clear hb2); (try clear hk); (try clear hi); (try clear ho0)))
 go_loopg [8, 9] k (fun kq v8 v9 w' => ∃ (x8_1 : List ByteArray) (x9_1 : Int), v9 = .int .i64 x9_1 ∧ Aside0 (palaverref03_Sign.l0 kq a0 a1 t330 x8_1 x9_1 = some r) ∧ Aside0 (kq ≤ k) ∧ Aside0 (Kd.R (Kd.int .i64) 3 w' w.heap.size (fun _ => True) v331 t330) ∧ Aside0 (Kd.R Kd.string 9 w' w.heap.size (fun _ => True) v8 x8_1) ∧ Aside0 (Below w.heap.size w w'))
 case atStart => exact ⟨(([] : List ByteArray)), (0), vq_, H', ⟨Nat.le_refl _⟩, ⟨mv_ HO332.out⟩, ⟨by first | exact Kd.R_nil _ _ _ _ _ | exact Kd.N_nil _ _ _ _ _ | exact Kd.V_nil _ _ _ _ _ | exact Kd.Q_nil _ _ _ _ _ | exact Kd.S_nil _ _ _ _ _⟩, ⟨bl_⟩⟩
 case round =>
  clear H'
  (try clear p2); (try clear c3)
  obtain ⟨x8_1, x9_1, rfl, HA, HK1, HO_7, HO_8, HB⟩ := hrel
  cases gk with
  | zero => exact absurd HA.out (by simp [palaverref03_Sign.l0])
  | succ k1 =>
   have H := HA.out
   clear HA
   simp only [palaverref03_Sign.l0] at H
   by_cases c6 : x9_1 < 67
   ·rw [if_pos c6] at H
    have c6b0 : decide (x9_1 < 67) = true := decide_eq_true c6
    clear c6
    revert H; refine oa_ fun t333 A7 => nd_ fun c8 c8b0 => nd_ fun c9 c9b0 => oa_ fun t335 A10 => nc_ fun c11 H => ?_
    have LMc11 := Aside0.mk c11
    clear c8 c9 c11
    generalize e_ : (x8_1 ++ [t335] : List ByteArray) = y336 at H
    have Ny336 := Aside0.mk e_.symm
    clear e_
    have H' := Aside0.mk H
    clear H
    try go_wp2
    replace HB := Aside0.mk (below_drew1 HB.out)
    replace HO_8 := Aside0.mk (Kd.R_drew HO_8.out)
    replace HO_7 := Aside0.mk (Kd.R_drew HO_7.out)
    obtain ⟨Ao13, co13, eo13⟩ := Kd.R_slice HO_7.out
    (first | subst eo13 | (injection eo13 with f1_ f2_ f3_; have f4_ := f1_.symm; have f5_ := f3_.symm; clear f1_ f2_ f3_; subst f4_; subst f5_))
    have p334 : 0 ≤ (x9_1 : Int) := ae_
    have q334 : x9_1 < (t330.length : Int) := ae_
    obtain ⟨ad334, e334, hx334_0⟩ := Kd.at_int (Kd.R_reads' HO_7.out).2.2 x9_1 p334 q334
    cases e334
    replace p334 := eq_true p334
    replace q334 := eq_true q334
    refine start_ (n := 14) (S := fun w' => w'.cell? (ad334.add (x9_1).toNat) = some (.int .i64 (rd t330 x9_1))) (ds := [11, 12]) #[false, false, false, false, false, false, false, false, false, false, false, false, false, false] (by kernel_rfl) rfl rfl (hx334_0) (fun hHeld => ?_); refine with_tabW palaverref03_Sign.tab6 palaverref03_Sign.bits6 (fun HT_ HW_ => ?_)
    generalize wr.drew = w12 at HO_7 HO_8 HB hx334_0 hHeld ⊢
    refine runs_ [(0, some 16), (1, some 17), (2, some 18), (3, some 19), (4, some 20), (6, some 22), (7, some 23), (8, some 24)] ?_
    iterate 8 (refine pL_ ?_)
    refine runsE_ ?_
    refine take_ (i := 9) (N := some 25) (v := ?_) (a' := ?_) #[true, true, true, true, true, false, true, true, true, true, false, false, false, false] rfl rfl (take_ofW HT_.out HW_.out (by kernel_rfl)) (fun _ _ _ h => h) (Or.inl ⟨by rfl, ?_⟩) hHeld ?_ ?_
    rotate_left
    ·intro w' s0
     go_simp
     with_reducible rfl
    rotate_left
    ·simp only [pr_]
     rfl
    refine one_ (i := 5) (N := some 21) #[true, true, true, true, true, true, true, true, true, true, false, false, false, false] rfl rfl (one_of HT_.out (by kernel_rfl)) (by decide) (fun K hK => ?_)
    refine goes_ Tryd.func62 (by kernel_rfl) rfl #[.string a0, .int .i64 a1, .int .i64 x9_1] (by rfl) rfl rfl gm1_ ?_
    with_reducible refine (palaverref03_Secret.calls k1 a0 a1 x9_1 t333 _ A7.out).mono ?_
    rintro e w14 ⟨rfl, hb⟩
    have HS0_ := (hb.cell (World.block_lt_of_cell? _ _ (hHeld))).trans (hHeld)
    refine ⟨_, rfl, ?_⟩
    replace HB := Aside0.mk (below_step bl_ hb)
    replace HO_8 := Aside0.mk (Kd.R_below (mv_ HO_8.out) hb)
    replace HO_7 := Aside0.mk (Kd.R_below (mv_ HO_7.out) hb)
    (try clear hb)
    (try clear hb2)
    (try clear hk)
    (try clear hi)
    refine hK.out _ _ (HS0_) (fun hHeld => ?_)
    clear hK K
    refine norm_ (a' := ?_) ?_ ?_
    rotate_left
    ·show Act.put _ (some 21) _ = _
     simp only [pr_]
     rfl
    refine one_ (i := 10) (N := some 26) #[true, true, true, true, true, true, true, true, true, true, true, false, false, false] rfl rfl (one_of HT_.out (by kernel_rfl)) (by decide) (fun K hK => ?_)
    refine goes_ Tryd.func61 (by kernel_rfl) rfl #[.int .i64 x9_1, .string t333, .int .i64 (rd t330 x9_1)] (by rfl) rfl rfl gm1_ ?_
    with_reducible refine (palaverref03_Chain.calls k1 x9_1 t333 (rd t330 x9_1) t335 _ A10.out).mono ?_
    rintro e w15 ⟨rfl, hb⟩
    have HS0_ := (hb.cell (World.block_lt_of_cell? _ _ (hHeld))).trans (hHeld)
    refine ⟨_, rfl, ?_⟩
    replace HB := Aside0.mk (below_step bl_ hb)
    replace HO_8 := Aside0.mk (Kd.R_below (mv_ HO_8.out) hb)
    replace HO_7 := Aside0.mk (Kd.R_below (mv_ HO_7.out) hb)
    (try clear hb)
    (try clear hb2)
    (try clear hk)
    (try clear hi)
    refine hK.out _ _ (HS0_) (fun hHeld => ?_)
    clear hK K
    refine norm_ (a' := ?_) ?_ ?_
    rotate_left
    ·show Act.put _ (some 26) _ = _
     simp only [pr_]
     rfl
    refine last_ (i := 11) (N := some 27) #[true, true, true, true, true, true, true, true, true, true, true, true, false, false] rfl rfl (one_of HT_.out (by kernel_rfl)) (by decide) (fun K hK => ?_)
    refine value_ (w1 := ?_) (v := ?_) (by rfl) rfl ?_ ?_
    rotate_left 2
    ·go_simp
     constructor
     ·rfl
     rfl
    refine hK.out _ _ ?_
    clear hK K
    refine norm_ (a' := ?_) ?_ ?_
    rotate_left
    ·show Act.put _ (some 27) _ = _
     simp only [pr_]
     rfl
    refine last_ (i := 12) (N := some 28) #[true, true, true, true, true, true, true, true, true, true, true, true, true, false] rfl rfl (one_of HT_.out (by kernel_rfl)) (by decide) (fun K hK => ?_)
    refine Kd.R_append_step Kd.string (w0 := w) w.heap.size (by rfl) (.tmp 16) (.tmp 27) 53 9 (.string ⟨#[]⟩) 16 rfl Tryd.underlying53 info9 rfl (by decide) (by omega) u8 x8_1 t335 [.string t335] (fun _ => True) (fun _ => False) rfl rfl ?aP (fun _ hk => hk.elim) ?aF ?aO ?aB ?aS ?aL ?_
    (case aP => exact rfl)
    (case aB => exact bl_)
    (case aF => exact (fun _ _ => trivial))
    (case aO => exact (mv_ HO_8.out))
    (case aS => exact (below_size bl_))
    (case aL => have := LMc11.out; omega)
    intro v337 w16 ho hb hg hat
    rw [← Ny336.out] at ho
    have HO338 := Aside0.mk (ho)
    replace HB := Aside0.mk (hb)
    replace HO_7 := Aside0.mk (Kd.R_over' (mv_ HO_7.out) (Kd.R_typed (mv_ HO_8.out)) (by decide) hg)
    clear HO_8
    clear ho hb hg hat
    refine hK.out _ _ ?_
    clear hK K
    refine norm_ (a' := ?_) ?_ ?_
    rotate_left
    ·show Act.put _ (some 28) _ = _
     simp only [pr_]
     rfl
    refine pure_ (i := 13) (N := some 8) (v := ?_) (a' := ?_) #[true, true, true, true, true, true, true, true, true, true, true, true, true, true] rfl rfl (any_of HT_.out (by kernel_rfl)) (fun _ _ _ h => h) (Or.inl ⟨by rfl, ?_⟩) ?_ ?_
    rotate_left
    ·intro w'
     go_simp
     with_reducible rfl
    rotate_left
    ·simp only [pr_]
     rfl
    refine done_ (done_of HT_.out (by kernel_rfl)) ?_
    try go_wp2
    go_roundg k1
    case measure => have := HK1.out; omega
    case rel => exact ⟨(y336), (wrap64 (x9_1 + 1)), vq_, H', ⟨by have := HK1.out; omega⟩, ⟨mv_ HO_7.out⟩, ⟨mv_ HO338.out⟩, ⟨bl_⟩⟩
   rw [if_neg c6] at H
   have c6b0 : decide (x9_1 < 67) = false := decide_eq_false c6
   clear c6
   obtain rfl := Option.some.inj H
   go_wp2
   go_ret
   exact ⟨_, er_, mv_ HO_8.out, bl_⟩

/-! ### palaverref04_Levels: function 42 -/
mutual
def palaverref04_Levels.l0 : Nat → List ByteArray → List (List ByteArray) → Option ((List (List ByteArray)))
 | 0, _, _ => none
 | k + 1, x0, x3 => if (x0.length : Int) > 1 then (palaverref04_Levels.l1 k x0 x3 ([] : List ByteArray) 0) else (some x3)
def palaverref04_Levels.l1 : Nat → List ByteArray → List (List ByteArray) → List ByteArray → Int → Option ((List (List ByteArray)))
 | 0, _, _, _, _ => none
 | k + 1, x0, x3, x4, x5 => if (wrap64 (x5 + 1)) < (x0.length : Int) then (if 0 ≤ x5 then (if x5 < (x0.length : Int) then (if 0 ≤ (wrap64 (x5 + 1)) then ((palaverref02_Tag.f k 4 (([rdOf ByteArray.empty x0 x5, rdOf ByteArray.empty x0 (wrap64 (x5 + 1))] : List ByteArray))).bind fun t347 => (if x4.length < 8796093022208 then (palaverref04_Levels.l1 k x0 x3 (x4 ++ [t347]) (wrap64 (x5 + 2))) else (none))) else (none)) else (none)) else (none)) else (if x3.length < 5864062014805 then (palaverref04_Levels.l0 k x4 (x3 ++ [x4])) else (none))
end
def palaverref04_Levels.f (k : Nat) (l0 : List ByteArray) : Option ((List (List ByteArray))) := palaverref04_Levels.l0 k l0 (([l0] : List (List ByteArray)))
theorem palaverref04_Levels.mono_l : ∀ k, (∀ y0 y1, LeO (palaverref04_Levels.l0 k y0 y1) (palaverref04_Levels.l0 (k + 1) y0 y1)) ∧ (∀ y0 y1 y2 y3, LeO (palaverref04_Levels.l1 k y0 y1 y2 y3) (palaverref04_Levels.l1 (k + 1) y0 y1 y2 y3))
 | 0 => ⟨fun _ _ r h => by simp [palaverref04_Levels.l0] at h, fun _ _ _ _ r h => by simp [palaverref04_Levels.l1] at h⟩
 | k + 1 => by
  obtain ⟨ih0, ih1⟩ := palaverref04_Levels.mono_l k
  refine ⟨?_, ?_⟩ <;> intros <;> (first | unfold palaverref04_Levels.l0 | unfold palaverref04_Levels.l1) <;> repeat' first
  | (with_reducible exact ih0 _ _)
  | (with_reducible exact ih1 _ _ _ _)
  | (with_reducible exact palaverref02_Tag.mono _ _ _)
  | (with_reducible exact LeO.refl _)
  | (with_reducible exact LeO.none _)
  | (with_reducible refine LeO.ite ?_ ?_)
  | (with_reducible refine LeO.bind ?_ (fun _ => ?_))
  | exact ih0 _ _
  | exact ih1 _ _ _ _
  | exact palaverref02_Tag.mono _ _ _
  | exact LeO.none _
  | refine LeO.ite ?_ ?_
  | refine LeO.bind ?_ (fun _ => ?_)
theorem palaverref04_Levels.mono : ∀ a0 k, LeO (palaverref04_Levels.f k a0) (palaverref04_Levels.f (k + 1) a0) := by
 intro a0 k
 obtain ⟨ih0, ih1⟩ := palaverref04_Levels.mono_l k
 unfold palaverref04_Levels.f
 repeat' first
  | (with_reducible exact ih0 _ _)
  | (with_reducible exact ih1 _ _ _ _)
  | (with_reducible exact palaverref02_Tag.mono _ _ _)
  | (with_reducible exact LeO.refl _)
  | (with_reducible exact LeO.none _)
  | (with_reducible refine LeO.ite ?_ ?_)
  | (with_reducible refine LeO.bind ?_ (fun _ => ?_))
  | exact ih0 _ _
  | exact ih1 _ _ _ _
  | exact palaverref02_Tag.mono _ _ _
  | exact LeO.none _
  | refine LeO.ite ?_ ?_
  | refine LeO.bind ?_ (fun _ => ?_)
def palaverref04_Levels.T7 : Bool × List (List Nat × List Nat) := (true, [([], []), ([], []), ([], []), ([1, 2], [1, 2]), ([3], [3]), ([], []), ([], []), ([6], [6]), ([5, 7], [5, 7]), ([8], [8]), ([4, 9], [4, 9]), ([10], [10]), ([11], [11]), ([0, 12, 11], [0, 12]), ([13, 13, 0, 1, 2, 3, 4, 5, 6, 7, 8, 9, 10, 11, 12, 13], [0, 13])])
def palaverref04_Levels.B7 : List Nat := [0, 0, 0, 6, 14, 0, 0, 64, 224, 480, 1022, 2046, 4094, 8191, 16383]
theorem palaverref04_Levels.tab7 : rtab .any (opsOf Tryd.f42 7) = palaverref04_Levels.T7 := by kernel_rfl
theorem palaverref04_Levels.bits7 : waitsOk palaverref04_Levels.T7.2 palaverref04_Levels.B7 = true := by kernel_rfl
set_option maxHeartbeats 64000000 in
set_option maxRecDepth 100000 in
theorem palaverref04_Levels.calls (k : Nat) (P0_ : Nat → Prop) (A0 : Option Addr) (c0 : Nat) (l0 : List ByteArray) (r : List (List ByteArray)) (w : World) (hs0 : Kd.V Kd.string 9 w w.heap.size (fun k_ => P0_ k_) (.slice A0 l0.length c0) l0) (h : palaverref04_Levels.f k l0 = some r) :
 Calls Tryd.prog 42 #[.slice A0 l0.length c0] w fun e w' => ∃ v0_ : Value, e = .returned (v0_) ∧ Kd.N (Kd.slice 9 Kd.string) 53 w' w.heap.size (fun k_ => (P0_ k_ ∨ w.heap.size ≤ k_)) v0_ r ∧ Below w.heap.size w w' := by
 have HO0 := Aside0.mk (show Kd.V Kd.string 9 w w.heap.size (fun k_ => (P0_ k_ ∨ w.heap.size ≤ k_)) (.slice A0 l0.length c0) l0 from Kd.V_mono hs0 (fun k_ hk => .inl hk))
 have HB := Aside0.mk (Below.refl w.heap.size w)
 have H : (palaverref04_Levels.l0 k l0 (([l0] : List (List ByteArray)))) = some r := h
 clear h
 generalize e_ : (([l0] : List (List ByteArray)) : List (List ByteArray)) = y339 at H
 have Ny339 := Aside0.mk e_.symm
 clear e_
 have H' := Aside0.mk H
 clear H
 go_enter Tryd.func42, Tryd.ntmps42
 go_wp2_with (first | ((with_reducible refine gate_dst (N := 7) rfl ?_); refine Kd.N_lit (Kd.slice 9 Kd.string) _ 53 ?hg (N' := 7) ?hd (xs := ([l0] : List (List ByteArray))) (inner := [.slice A0 l0.length c0]) (ok := (fun k_ => (P0_ k_ ∨ w.heap.size ≤ k_))) (okp := (fun k_ => (P0_ k_ ∨ w.heap.size ≤ k_))) ?hr ?hp (fun _ hk => hk) ((show ∀ k_, w.heap.size ≤ k_ → (fun k_ => (P0_ k_ ∨ w.heap.size ≤ k_)) k_ from fun k_ hk => (.inr (Nat.le_trans (below_size bl_) hk))) _ (Nat.le_refl _)) (Below.refl _ _) (Nat.le_refl _) (by simp) ?_; (case hd => rfl); (case hg => rfl); (case hr => exact gr_); (case hp => exact (Reps.one (show Kd.FK (Kd.slice 9 Kd.string) _ _ l0 [.slice A0 l0.length c0] from (Kd.FK_slice_mk (Kd.V_reads' (Kd.V_mono (ok' := (fun k_ => (P0_ k_ ∨ w.heap.size ≤ k_))) (HO0.out) (fun k_ hk => hk))).2.1 (Kd.V_F (Kd.V_mono (ok' := (fun k_ => (P0_ k_ ∨ w.heap.size ≤ k_))) (HO0.out) (fun k_ hk => hk))))) (Reps.none _ _))); intro v340 w2 ho3 hb hg_ hnew_; clear hg_ hnew_; (first | rw [← Ny339.out] at ho3 | (simp only [Int.reduceToNat] at ho3; rw [← Ny339.out] at ho3)); have HO341 := Aside0.mk (Kd.N_lower ho3 (below_size bl_)); replace HB := Aside0.mk (below_step bl_ hb); replace HO0 := Aside0.mk (Kd.V_elder' (by (with_reducible repeat (first | apply Kd.V_alloc | apply Kd.V_drewN | apply Kd.V_drew)); exact HO0.out) (Kd.N_base ho3) hb); clear hb ho3))
 go_loopg [0, 3] k (fun kq v0 v3 w' => ∃ (x0_1 : List ByteArray) (x3_1 : List (List ByteArray)), Aside0 (palaverref04_Levels.l0 kq x0_1 x3_1 = some r) ∧ Aside0 (kq ≤ k) ∧ Aside0 (Kd.V Kd.string 9 w' w.heap.size (fun k_ => (P0_ k_ ∨ w.heap.size ≤ k_) ∧ some k_ ≠ (v3 : Value).ownBlock) v0 x0_1) ∧ Aside0 (Kd.N (Kd.slice 9 Kd.string) 53 w' w.heap.size (fun k_ => (P0_ k_ ∨ w.heap.size ≤ k_)) v3 x3_1) ∧ Aside0 (Below w.heap.size w w'))
 case atStart => exact ⟨(l0), (y339), H', ⟨Nat.le_refl _⟩, ⟨by (with_reducible repeat (first | apply Kd.V_alloc | apply Kd.V_drewN | apply Kd.V_drew)); exact HO0.out⟩, ⟨by (with_reducible repeat (first | apply Kd.N_alloc | apply Kd.N_drewN | apply Kd.N_drew)); exact HO341.out⟩, ⟨bl_⟩⟩
 case round =>
  clear H'
  (try clear p2)
  obtain ⟨x0_1, x3_1, HA, HK1, HO_0, HO_3, HB⟩ := hrel
  cases gk with
  | zero => exact absurd HA.out (by simp [palaverref04_Levels.l0])
  | succ k1 =>
   have H := HA.out
   clear HA
   simp only [palaverref04_Levels.l0] at H
   by_cases c4 : (x0_1.length : Int) > 1
   ·rw [if_pos c4] at H
    have c4b0 : decide (1 < (x0_1.length : Int)) = true := decide_eq_true c4
    have c4b1 : decide (1 < x0_1.length) = true := decide_eq_true (by omega)
    clear c4
    have H' := Aside0.mk H
    clear H
    obtain ⟨Ao5, co5, eo5⟩ := Kd.V_slice HO_0.out
    subst eo5
    go_wp2
    go_loopg [4, 5] k1 (fun kq v4 v5 w' => ∃ (x4_2 : List ByteArray) (x5_2 : Int), v5 = .int .i64 x5_2 ∧ Aside0 (palaverref04_Levels.l1 kq x0_1 x3_1 x4_2 x5_2 = some r) ∧ Aside0 (kq ≤ k1) ∧ Aside0 (Kd.V Kd.string 9 w' w.heap.size (fun k_ => (P0_ k_ ∨ w.heap.size ≤ k_) ∧ some k_ ≠ (u3 : Value).ownBlock ∧ some k_ ≠ (v4 : Value).ownBlock) (.slice Ao5 x0_1.length co5) x0_1) ∧ Aside0 (Kd.N (Kd.slice 9 Kd.string) 53 w' w.heap.size (fun k_ => (P0_ k_ ∨ w.heap.size ≤ k_) ∧ some k_ ≠ (v4 : Value).ownBlock) u3 x3_1) ∧ Aside0 (Kd.R Kd.string 9 w' w.heap.size (fun k_ => (w.heap.size ≤ k_)) v4 x4_2) ∧ Aside0 (Below w.heap.size w w'))
    case atStart => exact ⟨(([] : List ByteArray)), (0), vq_, H', ⟨Nat.le_refl _⟩, ⟨by (with_reducible repeat (first | apply Kd.V_alloc | apply Kd.V_drewN | apply Kd.V_drew)); exact Kd.V_mono HO_0.out (fun _ hk => ⟨hk.1, ⟨hk.2, (by simp [Value.ownBlock])⟩⟩)⟩, ⟨by (with_reducible repeat (first | apply Kd.N_alloc | apply Kd.N_drewN | apply Kd.N_drew)); exact Kd.N_mono HO_3.out (fun _ hk => ⟨hk, (by simp [Value.ownBlock])⟩)⟩, ⟨by first | exact Kd.R_nil _ _ _ _ _ | exact Kd.N_nil _ _ _ _ _ | exact Kd.V_nil _ _ _ _ _ | exact Kd.Q_nil _ _ _ _ _ | exact Kd.S_nil _ _ _ _ _⟩, ⟨bl_⟩⟩
    case round =>
     clear H'
     (try clear p2); (try clear c4); (try clear c4b0); (try clear c4b1); (try clear p2)
     obtain ⟨x4_2, x5_2, rfl, HA, HK2, HO_0, HO_3, HO_4, HB⟩ := hrel
     cases gk with
     | zero => exact absurd HA.out (by simp [palaverref04_Levels.l1])
     | succ k2 =>
      have H := HA.out
      clear HA
      simp only [palaverref04_Levels.l1] at H
      by_cases c6 : (wrap64 (x5_2 + 1)) < (x0_1.length : Int)
      ·rw [if_pos c6] at H
       have c6b0 : decide ((wrap64 (x5_2 + 1)) < (x0_1.length : Int)) = true := decide_eq_true c6
       clear c6
       revert H; refine nd_ fun c7 c7b0 => nd_ fun c8 c8b0 H => ?_
       clear c7 c8
       generalize hji9 : (wrap64 (x5_2 + 1)) = ji9 at H
       (try rw [hji9] at c6b0)
       have hji9w := (i64_w _).trans hji9
       revert H; refine nd_ fun c10 c10b0 H => ?_
       clear c10
       generalize e_ : (([rdOf ByteArray.empty x0_1 x5_2, rdOf ByteArray.empty x0_1 (ji9)] : List ByteArray) : List ByteArray) = y344 at H
       have Ny344 := Aside0.mk e_.symm
       clear e_
       revert H; refine oa_ fun t347 A11 => nc_ fun c12 H => ?_
       have LMc12 := Aside0.mk c12
       clear c12
       generalize e_ : (x4_2 ++ [t347] : List ByteArray) = y348 at H
       have Ny348 := Aside0.mk e_.symm
       clear e_
       have H' := Aside0.mk H
       clear H
       try go_wp2
       replace HB := Aside0.mk (below_drew1 HB.out)
       replace HO_4 := Aside0.mk (Kd.R_drew HO_4.out)
       replace HO_3 := Aside0.mk (Kd.N_drew HO_3.out)
       replace HO_0 := Aside0.mk (Kd.V_drew HO_0.out)
       have p342 : 0 ≤ (x5_2 : Int) := ae_
       have q342 : x5_2 < (x0_1.length : Int) := ae_
       obtain ⟨ad342, e342, hx342_0⟩ := Kd.at_string (Kd.V_reads' HO_0.out).2.2 x5_2 p342 q342
       cases e342
       replace p342 := eq_true p342
       replace q342 := eq_true q342
       have p343 : 0 ≤ ((ji9) : Int) := ae_
       have q343 : (ji9) < (x0_1.length : Int) := ae_
       obtain ⟨ad343, e343, hx343_0⟩ := Kd.at_string (Kd.V_reads' HO_0.out).2.2 (ji9) p343 q343
       obtain rfl : ad342 = ad343 := (by injection e343)
       replace p343 := eq_true p343
       replace q343 := eq_true q343
       refine start_ (n := 15) (S := fun w' => w'.cell? (ad342.add (x5_2).toNat) = some (.string (rdOf ByteArray.empty x0_1 x5_2)) ∧ w'.cell? (ad342.add ((ji9)).toNat) = some (.string (rdOf ByteArray.empty x0_1 (ji9)))) (ds := [12, 13]) #[false, false, false, false, false, false, false, false, false, false, false, false, false, false, false] (by kernel_rfl) rfl rfl ⟨hx342_0, hx343_0⟩ (fun hHeld => ?_); refine with_tabW palaverref04_Levels.tab7 palaverref04_Levels.bits7 (fun HT_ HW_ => ?_)
       generalize wr.drew = w13 at HO_0 HO_3 HO_4 HB hx342_0 hx343_0 hHeld ⊢
       refine runs_ [(0, some 18), (1, some 19), (2, some 20), (3, some 21), (5, some 23), (6, some 24), (7, some 25), (8, some 26)] ?_
       iterate 8 (refine pL_ ?_)
       refine runsE_ ?_
       refine runs_ [(4, some 22), (9, some 27)] ?_
       iterate 2 (refine takeL_ (v := ?_) (a' := ?_) rfl rfl (take_ofW HT_.out HW_.out (by kernel_rfl)) (Or.inl ⟨by rfl, ?_⟩) hHeld ?_ ?_ (fun _ _ _ h => h); rotate_left; (rintro w' ⟨s0, s1⟩; go_simp; with_reducible rfl); rotate_left; (simp only [pr_]; rfl))
       refine runsE_ ?_
       refine one_ (i := 10) (N := some 28) #[true, true, true, true, true, true, true, true, true, true, true, false, false, false, false] rfl rfl (one_of HT_.out (by kernel_rfl)) (by decide) (fun K hK => ?_)
       refine Kd.R_lit_step Kd.string _ 9 ?hg (N := 28) ?hd (xs := ([rdOf ByteArray.empty x0_1 x5_2, rdOf ByteArray.empty x0_1 (ji9)] : List ByteArray)) (inner := [.string (rdOf ByteArray.empty x0_1 x5_2), .string (rdOf ByteArray.empty x0_1 (ji9))]) (ok := fun _ => True) (okp := fun _ => True) ?hr ?hp (fun _ hk => hk) trivial (Below.refl _ _) (Nat.le_refl _) (by simp) ?_; (case hd => rfl); (case hg => rfl); (case hr => exact gr_); (case hp => exact (Reps.one (show Kd.M Kd.string _ _ _ (rdOf ByteArray.empty x0_1 x5_2) [.string (rdOf ByteArray.empty x0_1 x5_2)] from rfl) (Reps.one (show Kd.M Kd.string _ _ _ (rdOf ByteArray.empty x0_1 (ji9)) [.string (rdOf ByteArray.empty x0_1 (ji9))] from rfl) (Reps.none _ _))))
       intro v345 w14 ho15 hb hg_ hnew_
       have HS0_ := (hb.cell (World.block_lt_of_cell? _ _ (hHeld.1))).trans (hHeld.1)
       have HS1_ := (hb.cell (World.block_lt_of_cell? _ _ (hHeld.2))).trans (hHeld.2)
       clear hg_ hnew_
       (first | rw [← Ny344.out] at ho15 | (simp only [Int.reduceToNat] at ho15; rw [← Ny344.out] at ho15))
       have HO346 := Aside0.mk (Kd.R_lower (Kd.R_new' (Kd.R_newM (M := fun k_ => (w.heap.size ≤ k_)) ho15 (below_size bl_) (fun k_ h_ => h_)) (Kd.R_lt (mv_ HO_4.out))) (below_size bl_))
       replace HB := Aside0.mk (below_step bl_ hb)
       replace HO_4 := Aside0.mk (Kd.R_elder' (mv_ HO_4.out) (Kd.R_base ho15) hb)
       replace HO_3 := Aside0.mk (Kd.N_elder' (by (with_reducible repeat (first | apply Kd.N_alloc | apply Kd.N_drewN | apply Kd.N_drew)); exact HO_3.out) (Kd.R_base ho15) hb)
       replace HO_0 := Aside0.mk (Kd.V_elder' (by (with_reducible repeat (first | apply Kd.V_alloc | apply Kd.V_drewN | apply Kd.V_drew)); exact HO_0.out) (Kd.R_base ho15) hb)
       clear hb ho15
       obtain ⟨Ao16, co16, eo16⟩ := Kd.R_slice HO346.out
       (first | subst eo16 | (injection eo16 with f1_ f2_ f3_; have f4_ := f1_.symm; have f5_ := f3_.symm; clear f1_ f2_ f3_; subst f4_; subst f5_))
       refine hK.out _ _ ⟨HS0_, HS1_⟩ (fun hHeld => ?_)
       clear hK K
       refine norm_ (a' := ?_) ?_ ?_
       rotate_left
       ·show Act.put _ (some 28) _ = _
        simp only [pr_]
        rfl
       refine one_ (i := 11) (N := some 29) #[true, true, true, true, true, true, true, true, true, true, true, true, false, false, false] rfl rfl (one_of HT_.out (by kernel_rfl)) (by decide) (fun K hK => ?_)
       refine goes_ Tryd.func34 (by kernel_rfl) rfl #[.int .i64 4, .slice Ao16 y344.length co16] (by rfl) rfl rfl gm1_ ?_
       with_reducible refine (palaverref02_Tag.calls k2 4 _ _ y344 t347 _ ?side1 ?side2 A11.out).mono ?_
       (case side1 => repeat (first | exact (Kd.R_reads' HO346.out).2.2 | (with_reducible refine Kd.C_alloc ?_ _) | (with_reducible refine Kd.C_drewN ?_ _) | (with_reducible refine Kd.C_drew ?_)))
       (case side2 => exact (Kd.R_reads' HO346.out).2.1)
       rintro e w17 ⟨rfl, hb⟩
       have HS0_ := (hb.cell (World.block_lt_of_cell? _ _ (hHeld.1))).trans (hHeld.1)
       have HS1_ := (hb.cell (World.block_lt_of_cell? _ _ (hHeld.2))).trans (hHeld.2)
       refine ⟨_, rfl, ?_⟩
       replace HB := Aside0.mk (below_step bl_ hb)
       replace HO346 := Aside0.mk (Kd.R_below (mv_ HO346.out) hb)
       replace HO_4 := Aside0.mk (Kd.R_below (mv_ HO_4.out) hb)
       replace HO_3 := Aside0.mk (Kd.N_below (by (with_reducible repeat (first | apply Kd.N_alloc | apply Kd.N_drewN | apply Kd.N_drew)); exact HO_3.out) hb)
       replace HO_0 := Aside0.mk (Kd.V_below (by (with_reducible repeat (first | apply Kd.V_alloc | apply Kd.V_drewN | apply Kd.V_drew)); exact HO_0.out) hb)
       (try clear hb)
       (try clear hb2)
       (try clear hk)
       (try clear hi)
       refine hK.out _ _ ⟨HS0_, HS1_⟩ (fun hHeld => ?_)
       clear hK K
       refine norm_ (a' := ?_) ?_ ?_
       rotate_left
       ·show Act.put _ (some 29) _ = _
        simp only [pr_]
        rfl
       refine last_ (i := 12) (N := some 30) #[true, true, true, true, true, true, true, true, true, true, true, true, true, false, false] rfl rfl (one_of HT_.out (by kernel_rfl)) (by decide) (fun K hK => ?_)
       refine value_ (w1 := ?_) (v := ?_) (by rfl) rfl ?_ ?_
       rotate_left 2
       ·go_simp
        constructor
        ·rfl
        rfl
       refine hK.out _ _ ?_
       clear hK K
       refine norm_ (a' := ?_) ?_ ?_
       rotate_left
       ·show Act.put _ (some 30) _ = _
        simp only [pr_]
        rfl
       refine last_ (i := 13) (N := some 31) #[true, true, true, true, true, true, true, true, true, true, true, true, true, true, false] rfl rfl (one_of HT_.out (by kernel_rfl)) (by decide) (fun K hK => ?_)
       refine Kd.R_append_step Kd.string (w0 := w) w.heap.size (by rfl) (.tmp 18) (.tmp 30) 53 9 (.string ⟨#[]⟩) 16 rfl Tryd.underlying53 info9 rfl (by decide) (by omega) u4 x4_2 t347 [.string t347] (fun k_ => (w.heap.size ≤ k_) ∧ some k_ ≠ (.slice Ao16 y344.length co16 : Value).ownBlock) (fun _ => False) rfl rfl ?aP (fun _ hk => hk.elim) ?aF ?aO ?aB ?aS ?aL ?_
       (case aP => exact rfl)
       (case aB => exact bl_)
       (case aF => exact (fun k_ hk => ⟨(Nat.le_trans (below_size bl_) hk), Kd.fresh' (Kd.R_lt (mv_ HO346.out)) k_ hk⟩))
       (case aO => exact (mv_ HO_4.out))
       (case aS => exact (below_size bl_))
       (case aL => have := LMc12.out; omega)
       intro v349 w18 ho hb hg hat
       rw [← Ny348.out] at ho
       have HO350 := Aside0.mk (ho)
       replace HB := Aside0.mk (hb)
       replace HO346 := Aside0.mk (Kd.R_after (ok := (fun k_ => (w.heap.size ≤ k_))) (by refine mv_ ?_; exact Kd.R_mono HO346.out (fun _ hk => ⟨hk.1.1, hk.2⟩)) hg hat)
       replace HO_3 := Aside0.mk (Kd.N_afterv (ok := (fun k_ => (P0_ k_ ∨ w.heap.size ≤ k_) ∧ some k_ ≠ (.slice Ao16 y344.length co16 : Value).ownBlock)) (by (with_reducible repeat (first | apply Kd.N_alloc | apply Kd.N_drewN | apply Kd.N_drew)); exact Kd.N_mono HO_3.out (fun _ hk => ⟨⟨hk.1.1, hk.2⟩, hk.1.2⟩)) hg hat)
       replace HO_0 := Aside0.mk (Kd.V_afterv (ok := (fun k_ => (P0_ k_ ∨ w.heap.size ≤ k_) ∧ some k_ ≠ (u3 : Value).ownBlock ∧ some k_ ≠ (.slice Ao16 y344.length co16 : Value).ownBlock)) (by (with_reducible repeat (first | apply Kd.V_alloc | apply Kd.V_drewN | apply Kd.V_drew)); exact Kd.V_mono HO_0.out (fun _ hk => ⟨⟨hk.1.1, ⟨hk.1.2.1, hk.2⟩⟩, hk.1.2.2⟩)) hg hat)
       clear HO_4
       clear ho hb hg hat
       refine hK.out _ _ ?_
       clear hK K
       refine norm_ (a' := ?_) ?_ ?_
       rotate_left
       ·show Act.put _ (some 31) _ = _
        simp only [pr_]
        rfl
       refine pure_ (i := 14) (N := some 4) (v := ?_) (a' := ?_) #[true, true, true, true, true, true, true, true, true, true, true, true, true, true, true] rfl rfl (any_of HT_.out (by kernel_rfl)) (fun _ _ _ h => h) (Or.inl ⟨by rfl, ?_⟩) ?_ ?_
       rotate_left
       ·intro w'
        go_simp
        with_reducible rfl
       rotate_left
       ·simp only [pr_]
        rfl
       refine done_ (done_of HT_.out (by kernel_rfl)) ?_
       try go_wp2
       go_roundg k2
       case measure => have := HK1.out; have := HK2.out; omega
       case rel => exact ⟨(y348), (wrap64 (x5_2 + 2)), vq_, H', ⟨by have := HK1.out; have := HK2.out; omega⟩, ⟨by (with_reducible repeat (first | apply Kd.V_alloc | apply Kd.V_drewN | apply Kd.V_drew)); exact Kd.V_mono HO_0.out (fun _ hk => ⟨hk.1.1, ⟨hk.1.2.1, hk.2⟩⟩)⟩, ⟨by (with_reducible repeat (first | apply Kd.N_alloc | apply Kd.N_drewN | apply Kd.N_drew)); exact Kd.N_mono HO_3.out (fun _ hk => ⟨hk.1.1, hk.2⟩)⟩, ⟨by refine mv_ ?_; exact Kd.R_mono HO350.out (fun _ hk => hk.1)⟩, ⟨bl_⟩⟩
      rw [if_neg c6] at H
      have c6b0 : decide ((wrap64 (x5_2 + 1)) < (x0_1.length : Int)) = false := decide_eq_false c6
      clear c6
      revert H; refine nc_ fun c19 H => ?_
      have LMc19 := Aside0.mk c19
      clear c19
      generalize e_ : (x3_1 ++ [x4_2] : List (List ByteArray)) = y352 at H
      have Ny352 := Aside0.mk e_.symm
      clear e_
      have H' := Aside0.mk H
      clear H
      have HO351 := Aside0.mk (show Kd.V Kd.string 9 _ w.heap.size _ _ _ from Kd.V_mono (ok' := (fun k_ => ((P0_ k_ ∨ w.heap.size ≤ k_) ∧ some k_ ≠ (u3 : Value).ownBlock))) (Kd.R_V (Kd.R_apart' (HO_4.out) (Kd.N_typed HO_3.out) (by decide))) (fun k_ hk => ⟨(.inr (hk.1)), hk.2⟩))
      clear HO_4
      obtain ⟨Ao21, co21, eo21⟩ := Kd.V_slice HO351.out
      subst eo21
      go_wp2_with (first | ((with_reducible refine gate_builtin (b := .append) (xs := #[.tmp 33, .tmp 35]) rfl ?_); at_builtin; refine Kd.N_append (Kd.slice 9 Kd.string) (w0 := w) w.heap.size rfl (.tmp 33) (.tmp 35) 81 53 (.slice none 0 0) 24 rfl Tryd.underlying81 info53 rfl (by decide) (by omega) u3 x3_1 x4_2 [.slice Ao21 x4_2.length co21] (fun k_ => (P0_ k_ ∨ w.heap.size ≤ k_)) (fun k_ => ((fun k_ => (P0_ k_ ∨ w.heap.size ≤ k_))) k_ ∧ some k_ ≠ (u3 : Value).ownBlock) rfl rfl ?aP (fun _ hk => hk) ?aF ?aO ?aB ?aS ?aL ?_; (case aP => exact (Kd.FK_slice_mk (Kd.V_reads' (Kd.V_mono (ok' := (fun k_ => ((fun k_ => (P0_ k_ ∨ w.heap.size ≤ k_))) k_ ∧ some k_ ≠ (u3 : Value).ownBlock)) (HO351.out) (fun k_ hk => ⟨hk.1, hk.2⟩))).2.1 (Kd.V_F (Kd.V_mono (ok' := (fun k_ => ((fun k_ => (P0_ k_ ∨ w.heap.size ≤ k_))) k_ ∧ some k_ ≠ (u3 : Value).ownBlock)) (HO351.out) (fun k_ hk => ⟨hk.1, hk.2⟩))))); (case aB => exact bl_); (case aF => exact (fun k_ hk => (.inr (Nat.le_trans (below_size bl_) hk)))); (case aO => exact (by (with_reducible repeat (first | apply Kd.N_alloc | apply Kd.N_drewN | apply Kd.N_drew)); exact Kd.N_mono HO_3.out (fun _ hk => hk.1))); (case aS => exact (below_size bl_)); (case aL => have := LMc19.out; omega); intro v353 w20 ho hb hg hat; rw [← Ny352.out] at ho; have HO354 := Aside0.mk (ho); replace HB := Aside0.mk (hb); replace HO351 := Aside0.mk (Kd.V_afterv (ok := (fun k_ => (P0_ k_ ∨ w.heap.size ≤ k_))) (by (with_reducible repeat (first | apply Kd.V_alloc | apply Kd.V_drewN | apply Kd.V_drew)); exact HO351.out) hg hat); replace HO_0 := Aside0.mk (Kd.V_afterv (ok := (fun k_ => (P0_ k_ ∨ w.heap.size ≤ k_))) (by (with_reducible repeat (first | apply Kd.V_alloc | apply Kd.V_drewN | apply Kd.V_drew)); exact Kd.V_mono HO_0.out (fun _ hk => ⟨hk.1, hk.2.1⟩)) hg hat); clear HO_3; clear ho hb hg hat))
      go_roundg k2
      case measure => have := HK1.out; have := HK2.out; omega
      case rel => exact ⟨(x4_2), (y352), H', ⟨by have := HK1.out; have := HK2.out; omega⟩, ⟨by (with_reducible repeat (first | apply Kd.V_alloc | apply Kd.V_drewN | apply Kd.V_drew)); exact HO351.out⟩, ⟨by (with_reducible repeat (first | apply Kd.N_alloc | apply Kd.N_drewN | apply Kd.N_drew)); exact HO354.out⟩, ⟨bl_⟩⟩
   rw [if_neg c4] at H
   have c4b0 : decide (1 < (x0_1.length : Int)) = false := decide_eq_false c4
   have c4b1 : decide (1 < x0_1.length) = false := decide_eq_false (by omega)
   clear c4
   obtain rfl := Option.some.inj H
   obtain ⟨Ao22, co22, eo22⟩ := Kd.V_slice HO_0.out
   subst eo22
   go_wp2
   go_ret
   exact ⟨_, er_, by (with_reducible repeat (first | apply Kd.N_alloc | apply Kd.N_drewN | apply Kd.N_drew)); exact HO_3.out, bl_⟩

/-! ### palaverref04_Path: function 35 -/
def palaverref04_Path.l0 : Nat → Int → List (List ByteArray) → List ByteArray → Int → Option (List ByteArray)
 | 0, _, _, _, _ => none
 | k + 1, x1, x5, x6, x7 => if x7 < (wrap64 ((x5.length : Int) - 1)) then (if (Int.tmod x1 2) = 0 then (if 0 ≤ x7 then (if x7 < (x5.length : Int) then (if 0 ≤ (wrap64 (x1 + 1)) then (if (wrap64 (x1 + 1)) < ((rd_L4 x5 x7).length : Int) then (if x6.length < 8796093022208 then (palaverref04_Path.l0 k (wrap64 (Int.tdiv x1 2)) x5 (x6 ++ [rdOf ByteArray.empty (rd_L4 x5 x7) (wrap64 (x1 + 1))]) (wrap64 (x7 + 1))) else (none)) else (none)) else (none)) else (none)) else (none)) else (if 0 ≤ x7 then (if x7 < (x5.length : Int) then (if 0 ≤ (wrap64 (x1 - 1)) then (if (wrap64 (x1 - 1)) < ((rd_L4 x5 x7).length : Int) then (if x6.length < 8796093022208 then (palaverref04_Path.l0 k (wrap64 (Int.tdiv x1 2)) x5 (x6 ++ [rdOf ByteArray.empty (rd_L4 x5 x7) (wrap64 (x1 - 1))]) (wrap64 (x7 + 1))) else (none)) else (none)) else (none)) else (none)) else (none))) else (some x6)
def palaverref04_Path.f (k : Nat) (l0 : List ByteArray) (a1 : Int) : Option (List ByteArray) := (palaverref04_Levels.f k l0).bind fun t355 => (palaverref04_Path.l0 k a1 t355 ([] : List ByteArray) 0)
theorem palaverref04_Path.mono_l : ∀ k, (∀ y0 y1 y2 y3, LeO (palaverref04_Path.l0 k y0 y1 y2 y3) (palaverref04_Path.l0 (k + 1) y0 y1 y2 y3))
 | 0 => fun _ _ _ _ r h => by simp [palaverref04_Path.l0] at h
 | k + 1 => by
  have ih0 := palaverref04_Path.mono_l k
  ·intro y0 y1 y2 y3
   unfold palaverref04_Path.l0
   repeat' first
   | (with_reducible exact ih0 _ _ _ _)
   | (with_reducible exact palaverref04_Levels.mono _ _)
   | (with_reducible exact LeO.refl _)
   | (with_reducible exact LeO.none _)
   | (with_reducible refine LeO.ite ?_ ?_)
   | (with_reducible refine LeO.bind ?_ (fun _ => ?_))
   | exact ih0 _ _ _ _
   | exact palaverref04_Levels.mono _ _
   | exact LeO.none _
   | refine LeO.ite ?_ ?_
   | refine LeO.bind ?_ (fun _ => ?_)
theorem palaverref04_Path.mono : ∀ a0 a1 k, LeO (palaverref04_Path.f k a0 a1) (palaverref04_Path.f (k + 1) a0 a1) := by
 intro a0 a1 k
 have ih0 := palaverref04_Path.mono_l k
 unfold palaverref04_Path.f
 repeat' first
  | (with_reducible exact ih0 _ _ _ _)
  | (with_reducible exact palaverref04_Levels.mono _ _)
  | (with_reducible exact LeO.refl _)
  | (with_reducible exact LeO.none _)
  | (with_reducible refine LeO.ite ?_ ?_)
  | (with_reducible refine LeO.bind ?_ (fun _ => ?_))
  | exact ih0 _ _ _ _
  | exact palaverref04_Levels.mono _ _
  | exact LeO.none _
  | refine LeO.ite ?_ ?_
  | refine LeO.bind ?_ (fun _ => ?_)
set_option maxHeartbeats 64000000 in
set_option maxRecDepth 100000 in
theorem palaverref04_Path.calls (k : Nat) (A0 : Option Addr) (c0 : Nat) (l0 : List ByteArray) (a1 : Int) (r : List ByteArray) (w : World) (hr0 : Kd.C Kd.string w A0 l0.length l0) (hc0 : l0.length ≤ c0) (h : palaverref04_Path.f k l0 a1 = some r) :
 Calls Tryd.prog 35 #[.slice A0 l0.length c0, .int .i64 a1] w fun e w' => ∃ v0_ : Value, e = .returned (v0_) ∧ Kd.R Kd.string 9 w' w.heap.size (fun _ => True) v0_ r ∧ Below w.heap.size w w' := by
 have HR0 := Aside0.mk hr0
 have HC0 := Aside0.mk hc0
 clear hr0 hc0
 have HB := Aside0.mk (Below.refl w.heap.size w)
 have H : ((palaverref04_Levels.f k l0).bind fun t355 => (palaverref04_Path.l0 k a1 t355 ([] : List ByteArray) 0)) = some r := h
 clear h
 revert H; refine oa_ fun t355 A3 H => ?_
 have H' := Aside0.mk H
 clear H
 go_enter Tryd.func35, Tryd.ntmps35
 go_wp2_with (first | ((with_reducible refine gate_callee (f := 42) rfl ?_); refine gL_ 9 Tryd.func42 #[.slice A0 l0.length c0] ?_; (with_reducible refine (palaverref04_Levels.calls k (fun k_ => k_ < w.heap.size) _ _ l0 t355 _ ?side1 A3.out).mono ?_); (case side1 => exact Kd.V_mk HC0.out (Kd.F_below (Kd.C_F Kd.heap_string HR0.out) bl_)); rintro e w4 ⟨v356, rfl, ho0, hb⟩; refine ⟨_, rfl, ?_⟩; have HO357 := Aside0.mk (Kd.N_lower (Kd.N_mono (ok' := fun k_ => True) ho0 (fun k_ hk_ => trivial)) (below_size bl_)); replace HB := Aside0.mk (below_step bl_ hb); (try clear hb); (try clear hb2); (try clear hk); (try clear hi); (try clear ho0)))
 go_loopg [1, 6, 7] k (fun kq v1 v6 v7 w' => ∃ (x1_1 : Int) (x6_1 : List ByteArray) (x7_1 : Int), v1 = .int .i64 x1_1 ∧ v7 = .int .i64 x7_1 ∧ Aside0 (palaverref04_Path.l0 kq x1_1 t355 x6_1 x7_1 = some r) ∧ Aside0 (kq ≤ k) ∧ Aside0 (Kd.N (Kd.slice 9 Kd.string) 53 w' w.heap.size (fun k_ => some k_ ≠ (v6 : Value).ownBlock) v356 t355) ∧ Aside0 (Kd.R Kd.string 9 w' w.heap.size (fun _ => True) v6 x6_1) ∧ Aside0 (Below w.heap.size w w'))
 case atStart => exact ⟨(a1), (([] : List ByteArray)), (0), vq_, vq_, H', ⟨Nat.le_refl _⟩, ⟨by (with_reducible repeat (first | apply Kd.N_alloc | apply Kd.N_drewN | apply Kd.N_drew)); exact Kd.N_mono HO357.out (fun _ hk => (by simp [Value.ownBlock]))⟩, ⟨by first | exact Kd.R_nil _ _ _ _ _ | exact Kd.N_nil _ _ _ _ _ | exact Kd.V_nil _ _ _ _ _ | exact Kd.Q_nil _ _ _ _ _ | exact Kd.S_nil _ _ _ _ _⟩, ⟨bl_⟩⟩
 case round =>
  clear H'
  (try clear p2); (try clear c3); (try clear c4)
  obtain ⟨x1_1, x6_1, x7_1, rfl, rfl, HA, HK1, HO_5, HO_6, HB⟩ := hrel
  cases gk with
  | zero => exact absurd HA.out (by simp [palaverref04_Path.l0])
  | succ k1 =>
   have H := HA.out
   clear HA
   simp only [palaverref04_Path.l0] at H
   by_cases c5 : x7_1 < (wrap64 ((t355.length : Int) - 1))
   ·rw [if_pos c5] at H
    have c5b0 : decide (x7_1 < (wrap64 ((t355.length : Int) - 1))) = true := decide_eq_true c5
    clear c5
    by_cases c6 : (Int.tmod x1_1 2) = 0
    ·rw [if_pos c6] at H
     have c6b0 : ((Int.tmod x1_1 2) == 0) = true := beq_iff_eq.mpr c6
     have c6b1 : ((Int.tmod x1_1 2) != 0) = false := bne_eq_false_iff_eq.mpr c6
     clear c6
     revert H; refine nd_ fun c7 c7b0 => nd_ fun c8 c8b0 H => ?_
     clear c7 c8
     generalize hji9 : (wrap64 (x1_1 + 1)) = ji9 at H
     have hji9w := (i64_w _).trans hji9
     revert H; refine nd_ fun c10 c10b0 => nd_ fun c11 c11b0 => nc_ fun c12 H => ?_
     have LMc12 := Aside0.mk c12
     clear c10 c11 c12
     generalize e_ : (x6_1 ++ [rdOf ByteArray.empty (rd_L4 t355 x7_1) (ji9)] : List ByteArray) = y360 at H
     have Ny360 := Aside0.mk e_.symm
     clear e_
     have H' := Aside0.mk H
     clear H
     obtain ⟨Ao13, co13, eo13⟩ := Kd.N_slice HO_5.out
     subst eo13
     have p358 : 0 ≤ (x7_1 : Int) := ae_
     have q358 : x7_1 < (t355.length : Int) := ae_
     obtain ⟨ad358, A358_0, c358_0, e358, hx358_0, hl358_0, hi358_0⟩ := at_L4 (Kd.N_reads' HO_5.out).2.2 x7_1 p358 q358
     cases e358
     obtain ⟨ce358, hce358, hMe358, hcc358⟩ := Kd.N_get HO_5.out [] x7_1 p358 (by first | exact q358 | exact ae_ | (have e_ := (Kd.N_reads' HO_5.out).1; omega))
     obtain ⟨ua358_0, uc358_0, rfl, ul358_0, ge358_0⟩ := Kd.FK_slice_open hMe358
     have hv358_0 := hcc358 0 _ rfl
     rw [Nat.add_zero, show ((Kd.slice 9 Kd.string)).sz = 1 from rfl, Nat.mul_one] at hv358_0
     replace hv358_0 := Option.some.inj (hv358_0.symm.trans hx358_0)
     injection hv358_0 with hva_ hvn_ hvc_
     rw [hva_] at ge358_0
     rw [hvc_] at ul358_0
     have HL358_0 := Aside0.mk (show Kd.V Kd.string 9 _ w.heap.size _ _ (rd_L4 t355 x7_1) from Kd.V_mk ul358_0 ge358_0)
     clear hva_ hvn_ hvc_ ge358_0 ul358_0
     clear hcc358 hce358
     have HR358_0 := Aside0.mk hi358_0
     have HC358_0 := Aside0.mk hl358_0
     clear hi358_0 hl358_0
     replace p358 := eq_true p358
     replace q358 := eq_true q358
     have p359 : 0 ≤ ((ji9) : Int) := ae_
     have q359 : (ji9) < ((rd_L4 t355 x7_1).length : Int) := ae_
     obtain ⟨ad359, e359, hx359_0⟩ := Kd.at_string (by repeat (first | (with_reducible exact HR358_0.out) | (with_reducible refine Kd.C_alloc ?_ _) | (with_reducible refine Kd.C_drewN ?_ _) | (with_reducible refine Kd.C_drew ?_) | exact HR358_0.out)) (ji9) p359 q359
     cases e359
     replace p359 := eq_true p359
     replace q359 := eq_true q359
     go_wp2_with (first | ((with_reducible refine gate_builtin (b := .append) (xs := #[.tmp 20, .tmp 29]) rfl ?_); at_builtin; refine Kd.R_append Kd.string (w0 := w) w.heap.size rfl (.tmp 20) (.tmp 29) 53 9 (.string ⟨#[]⟩) 16 rfl Tryd.underlying53 info9 rfl (by decide) (by omega) u6 x6_1 (rdOf ByteArray.empty (rd_L4 t355 x7_1) (ji9)) [.string (rdOf ByteArray.empty (rd_L4 t355 x7_1) (ji9))] (fun _ => True) (fun _ => False) rfl rfl ?aP (fun _ hk => hk.elim) ?aF ?aO ?aB ?aS ?aL ?_; (case aP => exact rfl); (case aB => exact bl_); (case aF => exact (fun _ _ => trivial)); (case aO => exact (mv_ HO_6.out)); (case aS => exact (below_size bl_)); (case aL => have := LMc12.out; omega); intro v361 w14 ho hb hg hat; rw [← Ny360.out] at ho; have HO362 := Aside0.mk (ho); replace HB := Aside0.mk (hb); replace HL358_0 := Aside0.mk (Kd.V_afterv (ok := (fun k_ => some k_ ≠ (.slice (some ad358) t355.length co13 : Value).ownBlock)) (by (with_reducible repeat (first | apply Kd.V_alloc | apply Kd.V_drewN | apply Kd.V_drew)); exact Kd.V_mono HL358_0.out (fun _ hk => ⟨hk.2, hk.1⟩)) hg hat); replace HO_5 := Aside0.mk (Kd.N_afterv (ok := (fun _ => True)) (by (with_reducible repeat (first | apply Kd.N_alloc | apply Kd.N_drewN | apply Kd.N_drew)); exact Kd.N_mono HO_5.out (fun _ hk => ⟨trivial, hk⟩)) hg hat); clear HO_6; clear ho hb hg hat))
     go_roundg k1
     case measure => have := HK1.out; omega
     case rel => exact ⟨(wrap64 (Int.tdiv x1_1 2)), (y360), (wrap64 (x7_1 + 1)), vq_, vq_, H', ⟨by have := HK1.out; omega⟩, ⟨by (with_reducible repeat (first | apply Kd.N_alloc | apply Kd.N_drewN | apply Kd.N_drew)); exact Kd.N_mono HO_5.out (fun _ hk => hk.2)⟩, ⟨mv_ HO362.out⟩, ⟨bl_⟩⟩
    rw [if_neg c6] at H
    have c6b0 : ((Int.tmod x1_1 2) == 0) = false := beq_eq_false_iff_ne.mpr c6
    have c6b1 : ((Int.tmod x1_1 2) != 0) = true := bne_iff_ne.mpr c6
    revert H; refine nd_ fun c15 c15b0 => nd_ fun c16 c16b0 H => ?_
    clear c15 c16
    generalize hji17 : (wrap64 (x1_1 - 1)) = ji17 at H
    have hji17w := (i64_w _).trans hji17
    revert H; refine nd_ fun c18 c18b0 => nd_ fun c19 c19b0 => nc_ fun c20 H => ?_
    have LMc20 := Aside0.mk c20
    clear c18 c19 c20
    generalize e_ : (x6_1 ++ [rdOf ByteArray.empty (rd_L4 t355 x7_1) (ji17)] : List ByteArray) = y365 at H
    have Ny365 := Aside0.mk e_.symm
    clear e_
    have H' := Aside0.mk H
    clear H
    obtain ⟨Ao21, co21, eo21⟩ := Kd.N_slice HO_5.out
    subst eo21
    have p363 : 0 ≤ (x7_1 : Int) := ae_
    have q363 : x7_1 < (t355.length : Int) := ae_
    obtain ⟨ad363, A363_0, c363_0, e363, hx363_0, hl363_0, hi363_0⟩ := at_L4 (Kd.N_reads' HO_5.out).2.2 x7_1 p363 q363
    cases e363
    obtain ⟨ce363, hce363, hMe363, hcc363⟩ := Kd.N_get HO_5.out [] x7_1 p363 (by first | exact q363 | exact ae_ | (have e_ := (Kd.N_reads' HO_5.out).1; omega))
    obtain ⟨ua363_0, uc363_0, rfl, ul363_0, ge363_0⟩ := Kd.FK_slice_open hMe363
    have hv363_0 := hcc363 0 _ rfl
    rw [Nat.add_zero, show ((Kd.slice 9 Kd.string)).sz = 1 from rfl, Nat.mul_one] at hv363_0
    replace hv363_0 := Option.some.inj (hv363_0.symm.trans hx363_0)
    injection hv363_0 with hva_ hvn_ hvc_
    rw [hva_] at ge363_0
    rw [hvc_] at ul363_0
    have HL363_0 := Aside0.mk (show Kd.V Kd.string 9 _ w.heap.size _ _ (rd_L4 t355 x7_1) from Kd.V_mk ul363_0 ge363_0)
    clear hva_ hvn_ hvc_ ge363_0 ul363_0
    clear hcc363 hce363
    have HR363_0 := Aside0.mk hi363_0
    have HC363_0 := Aside0.mk hl363_0
    clear hi363_0 hl363_0
    replace p363 := eq_true p363
    replace q363 := eq_true q363
    have p364 : 0 ≤ ((ji17) : Int) := ae_
    have q364 : (ji17) < ((rd_L4 t355 x7_1).length : Int) := ae_
    obtain ⟨ad364, e364, hx364_0⟩ := Kd.at_string (by repeat (first | (with_reducible exact HR363_0.out) | (with_reducible refine Kd.C_alloc ?_ _) | (with_reducible refine Kd.C_drewN ?_ _) | (with_reducible refine Kd.C_drew ?_) | exact HR363_0.out)) (ji17) p364 q364
    cases e364
    replace p364 := eq_true p364
    replace q364 := eq_true q364
    go_wp2_with (first | ((with_reducible refine gate_builtin (b := .append) (xs := #[.tmp 31, .tmp 40]) rfl ?_); at_builtin; refine Kd.R_append Kd.string (w0 := w) w.heap.size rfl (.tmp 31) (.tmp 40) 53 9 (.string ⟨#[]⟩) 16 rfl Tryd.underlying53 info9 rfl (by decide) (by omega) u6 x6_1 (rdOf ByteArray.empty (rd_L4 t355 x7_1) (ji17)) [.string (rdOf ByteArray.empty (rd_L4 t355 x7_1) (ji17))] (fun _ => True) (fun _ => False) rfl rfl ?aP (fun _ hk => hk.elim) ?aF ?aO ?aB ?aS ?aL ?_; (case aP => exact rfl); (case aB => exact bl_); (case aF => exact (fun _ _ => trivial)); (case aO => exact (mv_ HO_6.out)); (case aS => exact (below_size bl_)); (case aL => have := LMc20.out; omega); intro v366 w22 ho hb hg hat; rw [← Ny365.out] at ho; have HO367 := Aside0.mk (ho); replace HB := Aside0.mk (hb); replace HL363_0 := Aside0.mk (Kd.V_afterv (ok := (fun k_ => some k_ ≠ (.slice (some ad363) t355.length co21 : Value).ownBlock)) (by (with_reducible repeat (first | apply Kd.V_alloc | apply Kd.V_drewN | apply Kd.V_drew)); exact Kd.V_mono HL363_0.out (fun _ hk => ⟨hk.2, hk.1⟩)) hg hat); replace HO_5 := Aside0.mk (Kd.N_afterv (ok := (fun _ => True)) (by (with_reducible repeat (first | apply Kd.N_alloc | apply Kd.N_drewN | apply Kd.N_drew)); exact Kd.N_mono HO_5.out (fun _ hk => ⟨trivial, hk⟩)) hg hat); clear HO_6; clear ho hb hg hat))
    go_roundg k1
    case measure => have := HK1.out; omega
    case rel => exact ⟨(wrap64 (Int.tdiv x1_1 2)), (y365), (wrap64 (x7_1 + 1)), vq_, vq_, H', ⟨by have := HK1.out; omega⟩, ⟨by (with_reducible repeat (first | apply Kd.N_alloc | apply Kd.N_drewN | apply Kd.N_drew)); exact Kd.N_mono HO_5.out (fun _ hk => hk.2)⟩, ⟨mv_ HO367.out⟩, ⟨bl_⟩⟩
   rw [if_neg c5] at H
   have c5b0 : decide (x7_1 < (wrap64 ((t355.length : Int) - 1))) = false := decide_eq_false c5
   clear c5
   obtain rfl := Option.some.inj H
   obtain ⟨Ao23, co23, eo23⟩ := Kd.N_slice HO_5.out
   subst eo23
   go_wp2
   go_ret
   exact ⟨_, er_, mv_ HO_6.out, bl_⟩

/-! ### palaverref05_Sign: function 16 -/
mutual
def palaverref05_Sign.l0 : Nat → ByteArray → List ByteArray → List ByteArray → Int → Option (ByteArray)
 | 0, _, _, _, _ => none
 | k + 1, x9, x11, x12, x13 => if x13 < (x11.length : Int) then (if 0 ≤ x13 then (if x9.size + (rdOf ByteArray.empty x11 x13).size ≤ 9223372036854775807 then (palaverref05_Sign.l0 k (x9 ++ (rdOf ByteArray.empty x11 x13)) x11 x12 (wrap64 (x13 + 1))) else (none)) else (none)) else (palaverref05_Sign.l1 k x9 x12 0)
def palaverref05_Sign.l1 : Nat → ByteArray → List ByteArray → Int → Option (ByteArray)
 | 0, _, _, _ => none
 | k + 1, x9, x12, x14 => if x14 < (x12.length : Int) then (if 0 ≤ x14 then (if x9.size + (rdOf ByteArray.empty x12 x14).size ≤ 9223372036854775807 then (palaverref05_Sign.l1 k (x9 ++ (rdOf ByteArray.empty x12 x14)) x12 (wrap64 (x14 + 1))) else (none)) else (none)) else (some x9)
end
def palaverref05_Sign.f (k : Nat) (a0 : ByteArray) (a1 : Int) (a2 : Int) (a3 : ByteArray) : Option (ByteArray) := (palaverref01_Number.f k a2 2).bind fun bt368 => ((palaverref02_Tag.f k 6 (([a3] : List ByteArray))).bind fun t373 => ((palaverref03_Sign.f k a0 a2 t373).bind fun t374 => ((palaverref05_Leaves.f k a0 a1).bind fun t377 => ((palaverref04_Path.f k t377 a2).bind fun t380 => (palaverref05_Sign.l0 k bt368.1 t374 t380 0)))))
theorem palaverref05_Sign.mono_l : ∀ k, (∀ y0 y1 y2 y3, LeO (palaverref05_Sign.l0 k y0 y1 y2 y3) (palaverref05_Sign.l0 (k + 1) y0 y1 y2 y3)) ∧ (∀ y0 y1 y2, LeO (palaverref05_Sign.l1 k y0 y1 y2) (palaverref05_Sign.l1 (k + 1) y0 y1 y2))
 | 0 => ⟨fun _ _ _ _ r h => by simp [palaverref05_Sign.l0] at h, fun _ _ _ r h => by simp [palaverref05_Sign.l1] at h⟩
 | k + 1 => by
  obtain ⟨ih0, ih1⟩ := palaverref05_Sign.mono_l k
  refine ⟨?_, ?_⟩ <;> intros <;> (first | unfold palaverref05_Sign.l0 | unfold palaverref05_Sign.l1) <;> repeat' first
  | (with_reducible exact ih0 _ _ _ _)
  | (with_reducible exact ih1 _ _ _)
  | (with_reducible exact palaverref01_Number.mono _ _ _)
  | (with_reducible exact palaverref02_Tag.mono _ _ _)
  | (with_reducible exact palaverref03_Sign.mono _ _ _ _)
  | (with_reducible exact palaverref04_Path.mono _ _ _)
  | (with_reducible exact palaverref05_Leaves.mono _ _ _)
  | (with_reducible exact LeO.refl _)
  | (with_reducible exact LeO.none _)
  | (with_reducible refine LeO.ite ?_ ?_)
  | (with_reducible refine LeO.bind ?_ (fun _ => ?_))
  | exact ih0 _ _ _ _
  | exact ih1 _ _ _
  | exact palaverref01_Number.mono _ _ _
  | exact palaverref02_Tag.mono _ _ _
  | exact palaverref03_Sign.mono _ _ _ _
  | exact palaverref04_Path.mono _ _ _
  | exact palaverref05_Leaves.mono _ _ _
  | exact LeO.none _
  | refine LeO.ite ?_ ?_
  | refine LeO.bind ?_ (fun _ => ?_)
theorem palaverref05_Sign.mono : ∀ a0 a1 a2 a3 k, LeO (palaverref05_Sign.f k a0 a1 a2 a3) (palaverref05_Sign.f (k + 1) a0 a1 a2 a3) := by
 intro a0 a1 a2 a3 k
 obtain ⟨ih0, ih1⟩ := palaverref05_Sign.mono_l k
 unfold palaverref05_Sign.f
 repeat' first
  | (with_reducible exact ih0 _ _ _ _)
  | (with_reducible exact ih1 _ _ _)
  | (with_reducible exact palaverref01_Number.mono _ _ _)
  | (with_reducible exact palaverref02_Tag.mono _ _ _)
  | (with_reducible exact palaverref03_Sign.mono _ _ _ _)
  | (with_reducible exact palaverref04_Path.mono _ _ _)
  | (with_reducible exact palaverref05_Leaves.mono _ _ _)
  | (with_reducible exact LeO.refl _)
  | (with_reducible exact LeO.none _)
  | (with_reducible refine LeO.ite ?_ ?_)
  | (with_reducible refine LeO.bind ?_ (fun _ => ?_))
  | exact ih0 _ _ _ _
  | exact ih1 _ _ _
  | exact palaverref01_Number.mono _ _ _
  | exact palaverref02_Tag.mono _ _ _
  | exact palaverref03_Sign.mono _ _ _ _
  | exact palaverref04_Path.mono _ _ _
  | exact palaverref05_Leaves.mono _ _ _
  | exact LeO.none _
  | refine LeO.ite ?_ ?_
  | refine LeO.bind ?_ (fun _ => ?_)
set_option maxHeartbeats 64000000 in
set_option maxRecDepth 100000 in
theorem palaverref05_Sign.calls (k : Nat) (a0 : ByteArray) (a1 : Int) (a2 : Int) (a3 : ByteArray) (r : ByteArray) (w : World) (h : palaverref05_Sign.f k a0 a1 a2 a3 = some r) :
 Calls Tryd.prog 16 #[.string a0, .int .i64 a1, .int .i64 a2, .string a3] w fun e w' => e = .returned (.string r) ∧ Below w.heap.size w w' := by
 have HB := Aside0.mk (Below.refl w.heap.size w)
 have H : ((palaverref01_Number.f k a2 2).bind fun bt368 => ((palaverref02_Tag.f k 6 (([a3] : List ByteArray))).bind fun t373 => ((palaverref03_Sign.f k a0 a2 t373).bind fun t374 => ((palaverref05_Leaves.f k a0 a1).bind fun t377 => ((palaverref04_Path.f k t377 a2).bind fun t380 => (palaverref05_Sign.l0 k bt368.1 t374 t380 0)))))) = some r := h
 clear h
 replace H := ob_ H
 obtain ⟨⟨t368, t369⟩, A50, H⟩ := H
 replace H : ((palaverref02_Tag.f k 6 (([a3] : List ByteArray))).bind fun t373 => ((palaverref03_Sign.f k a0 a2 t373).bind fun t374 => ((palaverref05_Leaves.f k a0 a1).bind fun t377 => ((palaverref04_Path.f k t377 a2).bind fun t380 => (palaverref05_Sign.l0 k t368 t374 t380 0))))) = some r := H
 have A5 := Aside0.mk A50
 clear A50
 generalize e_ : (([a3] : List ByteArray) : List ByteArray) = y370 at H
 have Ny370 := Aside0.mk e_.symm
 clear e_
 revert H; refine oa_ fun t373 A6 => oa_ fun t374 A7 => oa_ fun t377 A8 => oa_ fun t380 A9 H => ?_
 have H' := Aside0.mk H
 clear H
 go_enter Tryd.func16, Tryd.ntmps16
 go_wp2_with (first | ((with_reducible refine gate_callee (f := 32) rfl ?_); refine gL_ 17 Tryd.func32 #[.int .i64 a2, .int .i64 2] ?_; (with_reducible refine (palaverref01_Number.calls k a2 2 t368 t369 _ A5.out).mono ?_); rintro e w10 ⟨rfl, hb⟩; refine ⟨_, rfl, ?_⟩; replace HB := Aside0.mk (below_step bl_ hb); (try clear hb); (try clear hb2); (try clear hk); (try clear hi)) | ((with_reducible refine gate_dst (N := 23) rfl ?_); refine Kd.R_lit Kd.string _ 9 ?hg (N := 23) ?hd (xs := ([a3] : List ByteArray)) (inner := [.string a3]) (ok := fun _ => True) (okp := fun _ => True) ?hr ?hp (fun _ hk => hk) trivial (Below.refl _ _) (Nat.le_refl _) (by simp) ?_; (case hd => rfl); (case hg => rfl); (case hr => exact gr_); (case hp => exact (Reps.one (show Kd.M Kd.string _ _ _ a3 [.string a3] from rfl) (Reps.none _ _))); intro v371 w11 ho12 hb hg_ hnew_; clear hg_ hnew_; (first | rw [← Ny370.out] at ho12 | (simp only [Int.reduceToNat] at ho12; rw [← Ny370.out] at ho12)); have HO372 := Aside0.mk (Kd.R_lower ho12 (below_size bl_)); replace HB := Aside0.mk (below_step bl_ hb); clear hb ho12; obtain ⟨Ao13, co13, eo13⟩ := Kd.R_slice HO372.out; subst eo13) | ((with_reducible refine gate_callee (f := 34) rfl ?_); refine gL_ 24 Tryd.func34 #[.int .i64 6, .slice Ao13 y370.length co13] ?_; (with_reducible refine (palaverref02_Tag.calls k 6 _ _ y370 t373 _ ?side1 ?side2 A6.out).mono ?_); (case side1 => repeat (first | exact (Kd.R_reads' HO372.out).2.2 | (with_reducible refine Kd.C_alloc ?_ _) | (with_reducible refine Kd.C_drewN ?_ _) | (with_reducible refine Kd.C_drew ?_))); (case side2 => exact (Kd.R_reads' HO372.out).2.1); rintro e w14 ⟨rfl, hb⟩; refine ⟨_, rfl, ?_⟩; replace HB := Aside0.mk (below_step bl_ hb); replace HO372 := Aside0.mk (Kd.R_below (mv_ HO372.out) hb); (try clear hb); (try clear hb2); (try clear hk); (try clear hi)) | ((with_reducible refine gate_callee (f := 33) rfl ?_); refine gL_ 25 Tryd.func33 #[.string a0, .int .i64 a2, .string t373] ?_; (with_reducible refine (palaverref03_Sign.calls k a0 a2 t373 t374 _ A7.out).mono ?_); rintro e w15 ⟨v375, rfl, ho0, hb⟩; refine ⟨_, rfl, ?_⟩; have HO376 := Aside0.mk (Kd.R_lower (Kd.R_new' ho0 (Kd.R_lt (mv_ HO372.out))) (below_size bl_)); replace HB := Aside0.mk (below_step bl_ hb); replace HO372 := Aside0.mk (Kd.R_elder' (mv_ HO372.out) (Kd.R_base ho0) hb); (try clear hb); (try clear hb2); (try clear hk); (try clear hi); (try clear ho0)) | ((with_reducible refine gate_callee (f := 23) rfl ?_); refine gL_ 28 Tryd.func23 #[.string a0, .int .i64 a1] ?_; (with_reducible refine (palaverref05_Leaves.calls k a0 a1 t377 _ A8.out).mono ?_); rintro e w16 ⟨v378, rfl, ho0, hb⟩; refine ⟨_, rfl, ?_⟩; have HO379 := Aside0.mk (Kd.R_lower (Kd.R_new' (Kd.R_new' ho0 (Kd.R_lt (mv_ HO372.out))) (Kd.R_lt (mv_ HO376.out))) (below_size bl_)); replace HB := Aside0.mk (below_step bl_ hb); replace HO376 := Aside0.mk (Kd.R_elder' (mv_ HO376.out) (Kd.R_base ho0) hb); replace HO372 := Aside0.mk (Kd.R_elder' (mv_ HO372.out) (Kd.R_base ho0) hb); (try clear hb); (try clear hb2); (try clear hk); (try clear hi); (try clear ho0); obtain ⟨Ao17, co17, eo17⟩ := Kd.R_slice HO379.out; subst eo17) | ((with_reducible refine gate_callee (f := 35) rfl ?_); refine gL_ 30 Tryd.func35 #[.slice Ao17 t377.length co17, .int .i64 a2] ?_; (with_reducible refine (palaverref04_Path.calls k _ _ t377 a2 t380 _ ?side1 ?side2 A9.out).mono ?_); (case side1 => repeat (first | exact (Kd.R_reads' HO379.out).2.2 | (with_reducible refine Kd.C_alloc ?_ _) | (with_reducible refine Kd.C_drewN ?_ _) | (with_reducible refine Kd.C_drew ?_))); (case side2 => exact (Kd.R_reads' HO379.out).2.1); rintro e w18 ⟨v381, rfl, ho0, hb⟩; refine ⟨_, rfl, ?_⟩; have HO382 := Aside0.mk (Kd.R_lower (Kd.R_new' (Kd.R_new' (Kd.R_new' ho0 (Kd.R_lt (mv_ HO372.out))) (Kd.R_lt (mv_ HO376.out))) (Kd.R_lt (mv_ HO379.out))) (below_size bl_)); replace HB := Aside0.mk (below_step bl_ hb); replace HO379 := Aside0.mk (Kd.R_elder' (mv_ HO379.out) (Kd.R_base ho0) hb); replace HO376 := Aside0.mk (Kd.R_elder' (mv_ HO376.out) (Kd.R_base ho0) hb); replace HO372 := Aside0.mk (Kd.R_elder' (mv_ HO372.out) (Kd.R_base ho0) hb); (try clear hb); (try clear hb2); (try clear hk); (try clear hi); (try clear ho0)))
 go_loopg [9, 13] k (fun kq v9 v13 w' => ∃ (x9_1 : ByteArray) (x13_1 : Int), v9 = .string x9_1 ∧ v13 = .int .i64 x13_1 ∧ Aside0 (palaverref05_Sign.l0 kq x9_1 t374 t380 x13_1 = some r) ∧ Aside0 (kq ≤ k) ∧ Aside0 (Kd.R Kd.string 9 w' w.heap.size (fun k_ => some k_ ≠ (v381 : Value).ownBlock) v375 t374) ∧ Aside0 (Kd.R Kd.string 9 w' w.heap.size (fun k_ => some k_ ≠ (v375 : Value).ownBlock) v381 t380) ∧ Aside0 (Below w.heap.size w w'))
 case atStart => exact ⟨(t368), (0), vq_, vq_, H', ⟨Nat.le_refl _⟩, ⟨by refine mv_ ?_; exact Kd.R_mono HO376.out (fun _ hk => hk.2)⟩, ⟨by refine mv_ ?_; exact Kd.R_mono HO382.out (fun _ hk => hk.1.2)⟩, ⟨bl_⟩⟩
 case round =>
  clear H'
  (try clear c1); (try clear c2); (try clear p2); (try clear c3); (try clear p6); (try clear c16)
  obtain ⟨x9_1, x13_1, rfl, rfl, HA, HK1, HO_11, HO_12, HB⟩ := hrel
  cases gk with
  | zero => exact absurd HA.out (by simp [palaverref05_Sign.l0])
  | succ k1 =>
   have H := HA.out
   clear HA
   simp only [palaverref05_Sign.l0] at H
   by_cases c19 : x13_1 < (t374.length : Int)
   ·rw [if_pos c19] at H
    have c19b0 : decide (x13_1 < (t374.length : Int)) = true := decide_eq_true c19
    clear c19
    revert H; refine nd_ fun c20 c20b0 => ne_ fun c21 c21b0 c21b1 H => ?_
    try have c21b2 : (9223372036854775807 < x9_1.size + (rdOf ByteArray.empty t374 x13_1).size) = False := eq_false (Nat.not_lt.2 c21)
    clear c20
    have H' := Aside0.mk H
    clear H
    obtain ⟨Ao22, co22, eo22⟩ := Kd.R_slice HO_11.out
    subst eo22
    have p383 : 0 ≤ (x13_1 : Int) := ae_
    have q383 : x13_1 < (t374.length : Int) := ae_
    obtain ⟨ad383, e383, hx383_0⟩ := Kd.at_string (Kd.R_reads' HO_11.out).2.2 x13_1 p383 q383
    cases e383
    replace p383 := eq_true p383
    replace q383 := eq_true q383
    go_wp2
    go_roundg k1
    case measure => have := HK1.out; omega
    case rel => exact ⟨(x9_1 ++ (rdOf ByteArray.empty t374 x13_1)), (wrap64 (x13_1 + 1)), vq_, vq_, H', ⟨by have := HK1.out; omega⟩, ⟨mv_ HO_11.out⟩, ⟨mv_ HO_12.out⟩, ⟨bl_⟩⟩
   rw [if_neg c19] at H
   have c19b0 : decide (x13_1 < (t374.length : Int)) = false := decide_eq_false c19
   clear c19
   have H' := Aside0.mk H
   clear H
   obtain ⟨Ao23, co23, eo23⟩ := Kd.R_slice HO_11.out
   subst eo23
   go_wp2
   go_loopg [9, 14] k1 (fun kq v9 v14 w' => ∃ (x9_2 : ByteArray) (x14_2 : Int), v9 = .string x9_2 ∧ v14 = .int .i64 x14_2 ∧ Aside0 (palaverref05_Sign.l1 kq x9_2 t380 x14_2 = some r) ∧ Aside0 (kq ≤ k1) ∧ Aside0 (Kd.R Kd.string 9 w' w.heap.size (fun _ => True) v381 t380) ∧ Aside0 (Below w.heap.size w w'))
   case atStart => exact ⟨(x9_1), (0), vq_, vq_, H', ⟨Nat.le_refl _⟩, ⟨by refine mv_ ?_; exact Kd.R_mono HO_12.out (fun _ hk => trivial)⟩, ⟨bl_⟩⟩
   case round =>
    clear H'
    (try clear c1); (try clear c2); (try clear p2); (try clear c3); (try clear p3); (try clear q3); (try clear hx3); (try clear p6); (try clear c16); (try clear c19); (try clear c19b0); (try clear c20); (try clear c20b0); (try clear c21); (try clear c21b0); (try clear c21b1); (try clear c21b2); (try clear c23); (try clear hx383_0); (try clear p2); (try clear p383); (try clear p6); (try clear q383)
    obtain ⟨x9_2, x14_2, rfl, rfl, HA, HK2, HO_12, HB⟩ := hrel
    cases gk with
    | zero => exact absurd HA.out (by simp [palaverref05_Sign.l1])
    | succ k2 =>
     have H := HA.out
     clear HA
     simp only [palaverref05_Sign.l1] at H
     by_cases c24 : x14_2 < (t380.length : Int)
     ·rw [if_pos c24] at H
      have c24b0 : decide (x14_2 < (t380.length : Int)) = true := decide_eq_true c24
      clear c24
      revert H; refine nd_ fun c25 c25b0 => ne_ fun c26 c26b0 c26b1 H => ?_
      try have c26b2 : (9223372036854775807 < x9_2.size + (rdOf ByteArray.empty t380 x14_2).size) = False := eq_false (Nat.not_lt.2 c26)
      clear c25
      have H' := Aside0.mk H
      clear H
      obtain ⟨Ao27, co27, eo27⟩ := Kd.R_slice HO_12.out
      subst eo27
      have p384 : 0 ≤ (x14_2 : Int) := ae_
      have q384 : x14_2 < (t380.length : Int) := ae_
      obtain ⟨ad384, e384, hx384_0⟩ := Kd.at_string (Kd.R_reads' HO_12.out).2.2 x14_2 p384 q384
      cases e384
      replace p384 := eq_true p384
      replace q384 := eq_true q384
      go_wp2
      go_roundg k2
      case measure => have := HK1.out; have := HK2.out; omega
      case rel => exact ⟨(x9_2 ++ (rdOf ByteArray.empty t380 x14_2)), (wrap64 (x14_2 + 1)), vq_, vq_, H', ⟨by have := HK1.out; have := HK2.out; omega⟩, ⟨mv_ HO_12.out⟩, ⟨bl_⟩⟩
     rw [if_neg c24] at H
     have c24b0 : decide (x14_2 < (t380.length : Int)) = false := decide_eq_false c24
     clear c24
     obtain rfl := Option.some.inj H
     obtain ⟨Ao28, co28, eo28⟩ := Kd.R_slice HO_12.out
     subst eo28
     go_wp2
     go_ret
     exact ⟨er_, bl_⟩

-- NOT PRINTED: function 7 (palaverlaw05_awake)

/-! ### merkle_Root: function 18 -/
def merkle_Root.f (k : Nat) (l0 : List ByteArray) : Option (ByteArray × Bool) := (merkle_leaves.f (l0.length : Int)).bind fun t385 => (if t385 = true then ((merkle_root.f k l0).bind fun t386 => (some (t386, true))) else (some ((⟨#[]⟩ : ByteArray), false)))
theorem merkle_Root.mono : ∀ a0 k, LeO (merkle_Root.f k a0) (merkle_Root.f (k + 1) a0) := by
 intro a0 k
 unfold merkle_Root.f
 repeat' first
  | (with_reducible exact merkle_root.mono _ _)
  | (with_reducible exact LeO.refl _)
  | (with_reducible exact LeO.none _)
  | (with_reducible refine LeO.ite ?_ ?_)
  | (with_reducible refine LeO.bind ?_ (fun _ => ?_))
  | exact merkle_root.mono _ _
  | exact LeO.none _
  | refine LeO.ite ?_ ?_
  | refine LeO.bind ?_ (fun _ => ?_)
set_option maxHeartbeats 64000000 in
set_option maxRecDepth 100000 in
theorem merkle_Root.calls (k : Nat) (A0 : Option Addr) (c0 : Nat) (l0 : List ByteArray) (r1 : ByteArray) (r2 : Bool) (w : World) (hr0 : Kd.C Kd.string w A0 l0.length l0) (hc0 : l0.length ≤ c0) (hrG : Kd.C (Kd.int .u32) w (some ⟨0, 0, none⟩) keysL.length keysL) (h : merkle_Root.f k l0 = some (r1, r2)) :
 Calls Tryd.prog 18 #[.slice A0 l0.length c0] w fun e w' => e = .returned (.tuple #[.string r1, .bool r2]) ∧ Below w.heap.size w w' := by
 have HR0 := Aside0.mk hr0
 have HC0 := Aside0.mk hc0
 clear hr0 hc0
 have HRG := Aside0.mk hrG
 clear hrG
 have HB := Aside0.mk (Below.refl w.heap.size w)
 have H : ((merkle_leaves.f (l0.length : Int)).bind fun t385 => (if t385 = true then ((merkle_root.f k l0).bind fun t386 => (some (t386, true))) else (some ((⟨#[]⟩ : ByteArray), false)))) = some (r1, r2) := h
 clear h
 revert H; refine oa_ fun t385 A2 H => ?_
 by_cases c3 : t385 = true
 ·subst c3
  have H1 : ((merkle_root.f k l0).bind fun t386 => (some (t386, true))) = some (r1, r2) := by rw [if_pos rfl] at H; exact H
  clear H
  have H := H1
  clear H1
  revert H; refine oa_ fun t386 A4 H => ?_
  simp only [Option.some.injEq, Prod.mk.injEq] at H
  obtain ⟨rfl, rfl⟩ := H
  go_enter Tryd.func18, Tryd.ntmps18
  go_wp2_with (first | ((with_reducible refine gate_callee (f := 37) rfl ?_); refine gL_ 6 Tryd.func37 #[.int .i64 (l0.length : Int)] ?_; (with_reducible refine (merkle_leaves.calls (l0.length : Int) true _ A2.out).mono ?_); rintro e w' ⟨rfl, ⟨nd, rfl⟩⟩; refine ⟨_, rfl, ?_⟩) | ((with_reducible refine gate_callee (f := 38) rfl ?_); refine gL_ 9 Tryd.func38 #[.slice A0 l0.length c0] ?_; (with_reducible refine (merkle_root.calls k _ _ l0 t386 _ ?side1 ?side2 ?side3 A4.out).mono ?_); (case side1 => repeat (first | exact HR0.out | (with_reducible refine Kd.C_alloc ?_ _) | (with_reducible refine Kd.C_drewN ?_ _) | (with_reducible refine Kd.C_drew ?_))); (case side2 => exact HC0.out); (case side3 => repeat (first | exact HRG.out | (with_reducible refine Kd.C_alloc ?_ _) | (with_reducible refine Kd.C_drewN ?_ _) | (with_reducible refine Kd.C_drew ?_))); rintro e w5 ⟨rfl, hb⟩; refine ⟨_, rfl, ?_⟩; replace HB := Aside0.mk (below_step bl_ hb); (try clear hb); (try clear hb2); (try clear hk); (try clear hi)))
  go_ret2
  exact ⟨er_, bl_⟩
 replace c3 := Bool.eq_false_iff.mpr c3
 subst c3
 have H1 : (some ((⟨#[]⟩ : ByteArray), false)) = some (r1, r2) := by rw [if_neg (show ¬ (false = true) by decide)] at H; exact H
 clear H
 have H := H1
 clear H1
 simp only [Option.some.injEq, Prod.mk.injEq] at H
 obtain ⟨rfl, rfl⟩ := H
 go_enter Tryd.func18, Tryd.ntmps18
 go_wp2_with (first | ((with_reducible refine gate_callee (f := 37) rfl ?_); refine gL_ 6 Tryd.func37 #[.int .i64 (l0.length : Int)] ?_; (with_reducible refine (merkle_leaves.calls (l0.length : Int) false _ A2.out).mono ?_); rintro e w' ⟨rfl, ⟨nd, rfl⟩⟩; refine ⟨_, rfl, ?_⟩))
 go_ret2
 exact ⟨er_, bl_⟩

/-! ### key_named: function 20 -/
def key_named.f (k : Nat) (a0 : Int) (a1 : ByteArray) : Option (ByteArray) := (octets_Byte.f k a0).bind fun bt387 => ((sha_Tag.f k 5 (([bt387.1, a1] : List ByteArray))).bind fun t392 => (some t392))
theorem key_named.mono : ∀ a0 a1 k, LeO (key_named.f k a0 a1) (key_named.f (k + 1) a0 a1) := by
 intro a0 a1 k
 unfold key_named.f
 repeat' first
  | (with_reducible exact octets_Byte.mono _ _)
  | (with_reducible exact sha_Tag.mono _ _ _)
  | (with_reducible exact LeO.refl _)
  | (with_reducible exact LeO.none _)
  | (with_reducible refine LeO.ite ?_ ?_)
  | (with_reducible refine LeO.bind ?_ (fun _ => ?_))
  | exact octets_Byte.mono _ _
  | exact sha_Tag.mono _ _ _
  | exact LeO.none _
  | refine LeO.ite ?_ ?_
  | refine LeO.bind ?_ (fun _ => ?_)
set_option maxHeartbeats 64000000 in
set_option maxRecDepth 100000 in
theorem key_named.calls (k : Nat) (a0 : Int) (a1 : ByteArray) (r : ByteArray) (w : World) (hrG : Kd.C (Kd.int .u32) w (some ⟨0, 0, none⟩) keysL.length keysL) (h : key_named.f k a0 a1 = some r) :
 Calls Tryd.prog 20 #[.int .i64 a0, .string a1] w fun e w' => e = .returned (.string r) ∧ Below w.heap.size w w' := by
 have HRG := Aside0.mk hrG
 clear hrG
 have HB := Aside0.mk (Below.refl w.heap.size w)
 have H : ((octets_Byte.f k a0).bind fun bt387 => ((sha_Tag.f k 5 (([bt387.1, a1] : List ByteArray))).bind fun t392 => (some t392))) = some r := h
 clear h
 replace H := ob_ H
 obtain ⟨⟨t387, t388⟩, A30, H⟩ := H
 replace H : ((sha_Tag.f k 5 (([t387, a1] : List ByteArray))).bind fun t392 => (some t392)) = some r := H
 have A3 := Aside0.mk A30
 clear A30
 generalize e_ : (([t387, a1] : List ByteArray) : List ByteArray) = y389 at H
 have Ny389 := Aside0.mk e_.symm
 clear e_
 revert H; refine oa_ fun t392 A4 H => ?_
 obtain rfl := Option.some.inj H
 go_enter Tryd.func20, Tryd.ntmps20
 go_wp2_with (first | ((with_reducible refine gate_callee (f := 41) rfl ?_); refine gL_ 9 Tryd.func41 #[.int .i64 a0] ?_; (with_reducible refine (octets_Byte.calls k a0 t387 t388 _ A3.out).mono ?_); rintro e w5 ⟨rfl, hb⟩; refine ⟨_, rfl, ?_⟩; replace HB := Aside0.mk (below_step bl_ hb); clear hb) | ((with_reducible refine gate_dst (N := 14) rfl ?_); refine Kd.R_lit Kd.string _ 9 ?hg (N := 14) ?hd (xs := ([t387, a1] : List ByteArray)) (inner := [.string t387, .string a1]) (ok := fun _ => True) (okp := fun _ => True) ?hr ?hp (fun _ hk => hk) trivial (Below.refl _ _) (Nat.le_refl _) (by simp) ?_; (case hd => rfl); (case hg => rfl); (case hr => exact gr_); (case hp => exact (Reps.one (show Kd.M Kd.string _ _ _ t387 [.string t387] from rfl) (Reps.one (show Kd.M Kd.string _ _ _ a1 [.string a1] from rfl) (Reps.none _ _)))); intro v390 w6 ho7 hb hg_ hnew_; clear hg_ hnew_; (first | rw [← Ny389.out] at ho7 | (simp only [Int.reduceToNat] at ho7; rw [← Ny389.out] at ho7)); have HO391 := Aside0.mk (Kd.R_lower ho7 (below_size bl_)); replace HB := Aside0.mk (below_step bl_ hb); clear hb ho7; obtain ⟨Ao8, co8, eo8⟩ := Kd.R_slice HO391.out; subst eo8) | ((with_reducible refine gate_callee (f := 28) rfl ?_); refine gL_ 15 Tryd.func28 #[.int .i64 5, .slice Ao8 y389.length co8] ?_; (with_reducible refine (sha_Tag.calls k 5 _ _ y389 t392 _ ?side1 ?side2 ?side3 A4.out).mono ?_); (case side1 => repeat (first | exact (Kd.R_reads' HO391.out).2.2 | (with_reducible refine Kd.C_alloc ?_ _) | (with_reducible refine Kd.C_drewN ?_ _) | (with_reducible refine Kd.C_drew ?_))); (case side2 => exact (Kd.R_reads' HO391.out).2.1); (case side3 => repeat (first | exact (Kd.C_below HRG.out HB.out) | (with_reducible refine Kd.C_alloc ?_ _) | (with_reducible refine Kd.C_drewN ?_ _) | (with_reducible refine Kd.C_drew ?_))); rintro e w9 ⟨rfl, hb⟩; refine ⟨_, rfl, ?_⟩; replace HB := Aside0.mk (below_step bl_ hb); replace HO391 := Aside0.mk (Kd.R_below (mv_ HO391.out) hb); clear hb))
 go_ret
 exact ⟨er_, bl_⟩

-- NOT PRINTED: function 9 (key_Key_Public)

/-! ### palaverref05_Named: function 21 -/
def palaverref05_Named.f (k : Nat) (a0 : Int) (a1 : ByteArray) : Option (ByteArray) := (palaverref01_Number.f k a0 1).bind fun bt393 => ((palaverref02_Tag.f k 5 (([bt393.1, a1] : List ByteArray))).bind fun t398 => (some t398))
theorem palaverref05_Named.mono : ∀ a0 a1 k, LeO (palaverref05_Named.f k a0 a1) (palaverref05_Named.f (k + 1) a0 a1) := by
 intro a0 a1 k
 unfold palaverref05_Named.f
 repeat' first
  | (with_reducible exact palaverref01_Number.mono _ _ _)
  | (with_reducible exact palaverref02_Tag.mono _ _ _)
  | (with_reducible exact LeO.refl _)
  | (with_reducible exact LeO.none _)
  | (with_reducible refine LeO.ite ?_ ?_)
  | (with_reducible refine LeO.bind ?_ (fun _ => ?_))
  | exact palaverref01_Number.mono _ _ _
  | exact palaverref02_Tag.mono _ _ _
  | exact LeO.none _
  | refine LeO.ite ?_ ?_
  | refine LeO.bind ?_ (fun _ => ?_)
set_option maxHeartbeats 64000000 in
set_option maxRecDepth 100000 in
theorem palaverref05_Named.calls (k : Nat) (a0 : Int) (a1 : ByteArray) (r : ByteArray) (w : World) (h : palaverref05_Named.f k a0 a1 = some r) :
 Calls Tryd.prog 21 #[.int .i64 a0, .string a1] w fun e w' => e = .returned (.string r) ∧ Below w.heap.size w w' := by
 have HB := Aside0.mk (Below.refl w.heap.size w)
 have H : ((palaverref01_Number.f k a0 1).bind fun bt393 => ((palaverref02_Tag.f k 5 (([bt393.1, a1] : List ByteArray))).bind fun t398 => (some t398))) = some r := h
 clear h
 replace H := ob_ H
 obtain ⟨⟨t393, t394⟩, A30, H⟩ := H
 replace H : ((palaverref02_Tag.f k 5 (([t393, a1] : List ByteArray))).bind fun t398 => (some t398)) = some r := H
 have A3 := Aside0.mk A30
 clear A30
 generalize e_ : (([t393, a1] : List ByteArray) : List ByteArray) = y395 at H
 have Ny395 := Aside0.mk e_.symm
 clear e_
 revert H; refine oa_ fun t398 A4 H => ?_
 obtain rfl := Option.some.inj H
 go_enter Tryd.func21, Tryd.ntmps21
 go_wp2_with (first | ((with_reducible refine gate_callee (f := 32) rfl ?_); refine gL_ 9 Tryd.func32 #[.int .i64 a0, .int .i64 1] ?_; (with_reducible refine (palaverref01_Number.calls k a0 1 t393 t394 _ A3.out).mono ?_); rintro e w5 ⟨rfl, hb⟩; refine ⟨_, rfl, ?_⟩; replace HB := Aside0.mk (below_step bl_ hb); clear hb) | ((with_reducible refine gate_dst (N := 14) rfl ?_); refine Kd.R_lit Kd.string _ 9 ?hg (N := 14) ?hd (xs := ([t393, a1] : List ByteArray)) (inner := [.string t393, .string a1]) (ok := fun _ => True) (okp := fun _ => True) ?hr ?hp (fun _ hk => hk) trivial (Below.refl _ _) (Nat.le_refl _) (by simp) ?_; (case hd => rfl); (case hg => rfl); (case hr => exact gr_); (case hp => exact (Reps.one (show Kd.M Kd.string _ _ _ t393 [.string t393] from rfl) (Reps.one (show Kd.M Kd.string _ _ _ a1 [.string a1] from rfl) (Reps.none _ _)))); intro v396 w6 ho7 hb hg_ hnew_; clear hg_ hnew_; (first | rw [← Ny395.out] at ho7 | (simp only [Int.reduceToNat] at ho7; rw [← Ny395.out] at ho7)); have HO397 := Aside0.mk (Kd.R_lower ho7 (below_size bl_)); replace HB := Aside0.mk (below_step bl_ hb); clear hb ho7; obtain ⟨Ao8, co8, eo8⟩ := Kd.R_slice HO397.out; subst eo8) | ((with_reducible refine gate_callee (f := 34) rfl ?_); refine gL_ 15 Tryd.func34 #[.int .i64 5, .slice Ao8 y395.length co8] ?_; (with_reducible refine (palaverref02_Tag.calls k 5 _ _ y395 t398 _ ?side1 ?side2 A4.out).mono ?_); (case side1 => repeat (first | exact (Kd.R_reads' HO397.out).2.2 | (with_reducible refine Kd.C_alloc ?_ _) | (with_reducible refine Kd.C_drewN ?_ _) | (with_reducible refine Kd.C_drew ?_))); (case side2 => exact (Kd.R_reads' HO397.out).2.1); rintro e w9 ⟨rfl, hb⟩; refine ⟨_, rfl, ?_⟩; replace HB := Aside0.mk (below_step bl_ hb); replace HO397 := Aside0.mk (Kd.R_below (mv_ HO397.out) hb); clear hb))
 go_ret
 exact ⟨er_, bl_⟩

/-! ### palaverref04_Root: function 22 -/
def palaverref04_Root.f (k : Nat) (l0 : List ByteArray) : Option (ByteArray) := (palaverref04_Levels.f k l0).bind fun t399 => (if 0 ≤ (wrap64 ((t399.length : Int) - 1)) then (if (wrap64 ((t399.length : Int) - 1)) < (t399.length : Int) then (if 0 < ((rd_L4 t399 (wrap64 ((t399.length : Int) - 1))).length : Int) then (some (rdOf ByteArray.empty (rd_L4 t399 (wrap64 ((t399.length : Int) - 1))) 0)) else (none)) else (none)) else (none))
theorem palaverref04_Root.mono : ∀ a0 k, LeO (palaverref04_Root.f k a0) (palaverref04_Root.f (k + 1) a0) := by
 intro a0 k
 unfold palaverref04_Root.f
 repeat' first
  | (with_reducible exact palaverref04_Levels.mono _ _)
  | (with_reducible exact LeO.refl _)
  | (with_reducible exact LeO.none _)
  | (with_reducible refine LeO.ite ?_ ?_)
  | (with_reducible refine LeO.bind ?_ (fun _ => ?_))
  | exact palaverref04_Levels.mono _ _
  | exact LeO.none _
  | refine LeO.ite ?_ ?_
  | refine LeO.bind ?_ (fun _ => ?_)
set_option maxHeartbeats 64000000 in
set_option maxRecDepth 100000 in
theorem palaverref04_Root.calls (k : Nat) (A0 : Option Addr) (c0 : Nat) (l0 : List ByteArray) (r : ByteArray) (w : World) (hr0 : Kd.C Kd.string w A0 l0.length l0) (hc0 : l0.length ≤ c0) (h : palaverref04_Root.f k l0 = some r) :
 Calls Tryd.prog 22 #[.slice A0 l0.length c0] w fun e w' => e = .returned (.string r) ∧ Below w.heap.size w w' := by
 have HR0 := Aside0.mk hr0
 have HC0 := Aside0.mk hc0
 clear hr0 hc0
 have HB := Aside0.mk (Below.refl w.heap.size w)
 have H : ((palaverref04_Levels.f k l0).bind fun t399 => (if 0 ≤ (wrap64 ((t399.length : Int) - 1)) then (if (wrap64 ((t399.length : Int) - 1)) < (t399.length : Int) then (if 0 < ((rd_L4 t399 (wrap64 ((t399.length : Int) - 1))).length : Int) then (some (rdOf ByteArray.empty (rd_L4 t399 (wrap64 ((t399.length : Int) - 1))) 0)) else (none)) else (none)) else (none))) = some r := h
 clear h
 revert H; refine oa_ fun t399 A2 H => ?_
 generalize hji3 : (wrap64 ((t399.length : Int) - 1)) = ji3 at H
 (try rw [hji3] at A2)
 have hji3w := (i64_w _).trans hji3
 revert H; refine nd_ fun c4 c4b0 => nd_ fun c5 c5b0 => nd_ fun c6 c6b0 H => ?_
 have c6b1 : decide (0 < (rd_L4 t399 (ji3)).length) = true := decide_eq_true (by omega)
 clear c4 c5 c6
 obtain rfl := Option.some.inj H
 go_enter Tryd.func22, Tryd.ntmps22
 go_wp2_with (first | ((with_reducible refine gate_callee (f := 42) rfl ?_); refine gL_ 5 Tryd.func42 #[.slice A0 l0.length c0] ?_; (with_reducible refine (palaverref04_Levels.calls k (fun k_ => k_ < w.heap.size) _ _ l0 t399 _ ?side1 A2.out).mono ?_); (case side1 => exact Kd.V_mk HC0.out (Kd.F_below (Kd.C_F Kd.heap_string HR0.out) bl_)); rintro e w7 ⟨v400, rfl, ho0, hb⟩; refine ⟨_, rfl, ?_⟩; have HO401 := Aside0.mk (Kd.N_lower (Kd.N_mono (ok' := fun k_ => True) ho0 (fun k_ hk_ => trivial)) (below_size bl_)); replace HB := Aside0.mk (below_step bl_ hb); (try clear hb); (try clear hb2); (try clear hk); (try clear hi); (try clear ho0); obtain ⟨Ao8, co8, eo8⟩ := Kd.N_slice HO401.out; subst eo8; have p402 : 0 ≤ ((ji3) : Int) := ae_; have q402 : (ji3) < (t399.length : Int) := ae_; obtain ⟨ad402, A402_0, c402_0, e402, hx402_0, hl402_0, hi402_0⟩ := at_L4 (Kd.N_reads' HO401.out).2.2 (ji3) p402 q402; cases e402; obtain ⟨ce402, hce402, hMe402, hcc402⟩ := Kd.N_get HO401.out [] (ji3) p402 (by first | exact q402 | exact ae_ | (have e_ := (Kd.N_reads' HO401.out).1; omega)); obtain ⟨ua402_0, uc402_0, rfl, ul402_0, ge402_0⟩ := Kd.FK_slice_open hMe402; have hv402_0 := hcc402 0 _ rfl; rw [Nat.add_zero, show ((Kd.slice 9 Kd.string)).sz = 1 from rfl, Nat.mul_one] at hv402_0; replace hv402_0 := Option.some.inj (hv402_0.symm.trans hx402_0); injection hv402_0 with hva_ hvn_ hvc_; rw [hva_] at ge402_0; rw [hvc_] at ul402_0; have HL402_0 := Aside0.mk (show Kd.V Kd.string 9 _ w.heap.size _ _ (rd_L4 t399 (ji3)) from Kd.V_mk ul402_0 ge402_0); clear hva_ hvn_ hvc_ ge402_0 ul402_0; clear hcc402 hce402; have HR402_0 := Aside0.mk hi402_0; have HC402_0 := Aside0.mk hl402_0; clear hi402_0 hl402_0; replace p402 := eq_true p402; replace q402 := eq_true q402; have p403 : 0 ≤ (0 : Int) := (by omega); have q403 : 0 < ((rd_L4 t399 (ji3)).length : Int) := ae_; obtain ⟨ad403, e403, hx403_0⟩ := Kd.at_string (by repeat (first | (with_reducible exact HR402_0.out) | (with_reducible refine Kd.C_alloc ?_ _) | (with_reducible refine Kd.C_drewN ?_ _) | (with_reducible refine Kd.C_drew ?_) | exact HR402_0.out)) 0 p403 q403; cases e403; have qi403 : (0 < (rd_L4 t399 (ji3)).length) = True := eq_true (by omega); (try rw [show ((0 : Int)).toNat = 0 from rfl] at hx403_0); (try rw [Addr.add_zero'] at hx403_0); replace p403 := eq_true p403; replace q403 := eq_true q403))
 go_ret
 exact ⟨by first | rfl | (simp [errW_none, errW_some] <;> rfl) | (simp only [← hji3]; first | rfl | (simp [errW_none, errW_some] <;> rfl)) | (simp [*, errW_none, errW_some] <;> rfl), bl_⟩

/-! ### palaverref05_Public: function 10 -/
def palaverref05_Public.f (k : Nat) (a0 : ByteArray) (a1 : Int) : Option (ByteArray) := (palaverref05_Leaves.f k a0 a1).bind fun t404 => ((palaverref04_Root.f k t404).bind fun t407 => ((palaverref05_Named.f k a1 t407).bind fun t408 => (some t408)))
theorem palaverref05_Public.mono : ∀ a0 a1 k, LeO (palaverref05_Public.f k a0 a1) (palaverref05_Public.f (k + 1) a0 a1) := by
 intro a0 a1 k
 unfold palaverref05_Public.f
 repeat' first
  | (with_reducible exact palaverref04_Root.mono _ _)
  | (with_reducible exact palaverref05_Leaves.mono _ _ _)
  | (with_reducible exact palaverref05_Named.mono _ _ _)
  | (with_reducible exact LeO.refl _)
  | (with_reducible exact LeO.none _)
  | (with_reducible refine LeO.ite ?_ ?_)
  | (with_reducible refine LeO.bind ?_ (fun _ => ?_))
  | exact palaverref04_Root.mono _ _
  | exact palaverref05_Leaves.mono _ _ _
  | exact palaverref05_Named.mono _ _ _
  | exact LeO.none _
  | refine LeO.ite ?_ ?_
  | refine LeO.bind ?_ (fun _ => ?_)
set_option maxHeartbeats 64000000 in
set_option maxRecDepth 100000 in
theorem palaverref05_Public.calls (k : Nat) (a0 : ByteArray) (a1 : Int) (r : ByteArray) (w : World) (h : palaverref05_Public.f k a0 a1 = some r) :
 Calls Tryd.prog 10 #[.string a0, .int .i64 a1] w fun e w' => e = .returned (.string r) ∧ Below w.heap.size w w' := by
 have HB := Aside0.mk (Below.refl w.heap.size w)
 have H : ((palaverref05_Leaves.f k a0 a1).bind fun t404 => ((palaverref04_Root.f k t404).bind fun t407 => ((palaverref05_Named.f k a1 t407).bind fun t408 => (some t408)))) = some r := h
 clear h
 revert H; refine oa_ fun t404 A3 => oa_ fun t407 A4 => oa_ fun t408 A5 H => ?_
 obtain rfl := Option.some.inj H
 go_enter Tryd.func10, Tryd.ntmps10
 go_wp2_with (first | ((with_reducible refine gate_callee (f := 23) rfl ?_); refine gL_ 8 Tryd.func23 #[.string a0, .int .i64 a1] ?_; (with_reducible refine (palaverref05_Leaves.calls k a0 a1 t404 _ A3.out).mono ?_); rintro e w6 ⟨v405, rfl, ho0, hb⟩; refine ⟨_, rfl, ?_⟩; have HO406 := Aside0.mk (Kd.R_lower ho0 (below_size bl_)); replace HB := Aside0.mk (below_step bl_ hb); (try clear hb); (try clear hb2); (try clear hk); (try clear hi); (try clear ho0); obtain ⟨Ao7, co7, eo7⟩ := Kd.R_slice HO406.out; subst eo7) | ((with_reducible refine gate_callee (f := 22) rfl ?_); refine gL_ 9 Tryd.func22 #[.slice Ao7 t404.length co7] ?_; (with_reducible refine (palaverref04_Root.calls k _ _ t404 t407 _ ?side1 ?side2 A4.out).mono ?_); (case side1 => repeat (first | exact (Kd.R_reads' HO406.out).2.2 | (with_reducible refine Kd.C_alloc ?_ _) | (with_reducible refine Kd.C_drewN ?_ _) | (with_reducible refine Kd.C_drew ?_))); (case side2 => exact (Kd.R_reads' HO406.out).2.1); rintro e w8 ⟨rfl, hb⟩; refine ⟨_, rfl, ?_⟩; replace HB := Aside0.mk (below_step bl_ hb); replace HO406 := Aside0.mk (Kd.R_below (mv_ HO406.out) hb); (try clear hb); (try clear hb2); (try clear hk); (try clear hi)) | ((with_reducible refine gate_callee (f := 21) rfl ?_); refine gL_ 10 Tryd.func21 #[.int .i64 a1, .string t407] ?_; (with_reducible refine (palaverref05_Named.calls k a1 t407 t408 _ A5.out).mono ?_); rintro e w9 ⟨rfl, hb⟩; refine ⟨_, rfl, ?_⟩; replace HB := Aside0.mk (below_step bl_ hb); replace HO406 := Aside0.mk (Kd.R_below (mv_ HO406.out) hb); (try clear hb); (try clear hb2); (try clear hk); (try clear hi)))
 go_ret
 exact ⟨er_, bl_⟩

-- NOT PRINTED: function 3 (palaverlaw05_KeyMakes)

-- NOT PRINTED: function 4 (palaverlaw05_KeyNone)

/-! ### palaverlaw05_small: function 14 -/
def palaverlaw05_small.f (a0 : Int) : Option (Int) := some (wrap64 (Int.tmod (IntKind.u64.wrap (a0)) 3))
set_option maxHeartbeats 64000000 in
set_option maxRecDepth 100000 in
theorem palaverlaw05_small.calls (a0 : Int) (r : Int) (w : World) (h : palaverlaw05_small.f a0 = some r) :
 Calls Tryd.prog 14 #[.int .i64 a0] w fun e w' => e = .returned (.int .i64 r) ∧ Drawn0 w w' := by
 have H : (some (wrap64 (Int.tmod (IntKind.u64.wrap (a0)) 3))) = some r := h
 clear h
 obtain rfl := Option.some.inj H
 go_enter Tryd.func14, Tryd.ntmps14
 go_wp2
 go_ret
 exact ⟨by first | rfl | (simp; done) | (simp [*]; done) | exact congrArg Value.bool (nonempty_l _) | (refine congrArg (Value.int _) ?_; first | omega | (unfold wrap64; omega)), by repeat (first | exact Drawn0.refl _ | apply Drawn0.step)⟩

/-- A state of type 119 at block g of W; what its slices lead to came in by w0. -/
def IsS119 (w0 W : World) (g : Nat) (f0 : ByteArray) (f1 : Bool) : Prop := W.heap[g]? = some (.cells #[.string f0, .bool f1] 119 (0, 0)) ∧ w0.heap.size ≤ g
theorem IsS119.grown {w0 W : World} {g : Nat} {f0 : ByteArray} {f1 : Bool} {W1 : World} {row : Option Nat} (h : IsS119 w0 W g f0 f1) (hw : W.grownBy W1 row) (hne : some g ≠ row) : IsS119 w0 W1 g f0 f1 := by
 obtain ⟨hb, hg⟩ := h
 exact ⟨blk_grown hb hw hne, hg⟩
theorem IsS119.own_neN {w0 W : World} {g : Nat} {f0 : ByteArray} {f1 : Bool} {α : Type} {d : Kd α} {e : Nat} {base : Nat} {ok : Nat → Prop} {v : Value} {xs : List α} (h : IsS119 w0 W g f0 f1) (ho : Kd.N d e W base ok v xs) (ht : e ≠ 119) : some g ≠ v.ownBlock := by
 obtain ⟨hb, hg⟩ := h
 exact Kd.N_ne ho hb ht
theorem IsS119.fresh {w0 W : World} {g : Nat} {f0 : ByteArray} {f1 : Bool} (h : IsS119 w0 W g f0 f1) : ∀ k, W.heap.size ≤ k → k ≠ g := by
 obtain ⟨hb, hg⟩ := h
 exact Kd.freshB hb
theorem IsS119.kept {w0 W : World} {g : Nat} {f0 : ByteArray} {f1 : Bool} {W1 : World} {S : Nat → Prop} (h : IsS119 w0 W g f0 f1) (hk : Kept W W1 S) (hne : ¬ S g) : IsS119 w0 W1 g f0 f1 := by
 obtain ⟨hb, hg⟩ := h
 exact ⟨blk_kept hb hk hne, hg⟩
theorem IsS119.below {w0 W : World} {g : Nat} {f0 : ByteArray} {f1 : Bool} {W1 : World} (h : IsS119 w0 W g f0 f1) (hw : Below W.heap.size W W1) : IsS119 w0 W1 g f0 f1 := h.grown (grown_of_below hw none) (by simp)
theorem IsS119.alloc {w0 W : World} {g : Nat} {f0 : ByteArray} {f1 : Bool} (h : IsS119 w0 W g f0 f1) (o : Obj) : IsS119 w0 (W.alloc o) g f0 f1 := h.below (below_alloc (Below.refl _ _) o)
theorem IsS119.drewN {w0 W : World} {g : Nat} {f0 : ByteArray} {f1 : Bool} (h : IsS119 w0 W g f0 f1) (m : Nat) : IsS119 w0 (W.drewN m) g f0 f1 := h
theorem IsS119.drew {w0 W : World} {g : Nat} {f0 : ByteArray} {f1 : Bool} (h : IsS119 w0 W g f0 f1) : IsS119 w0 W.drew g f0 f1 := h
theorem IsS119.at_ {w0 W : World} {g : Nat} {f0 : ByteArray} {f1 : Bool} {w' : World} {m : Nat} (hq : W.drewN m = w') (h : IsS119 w0 W g f0 f1) : IsS119 w0 w' g f0 f1 := by subst hq; exact IsS119.drewN h m
theorem IsS119.apart {w0 W : World} {g : Nat} {f0 : ByteArray} {f1 : Bool} {α : Type} {d : Kd α} {e : Nat} {base : Nat} {ok : Nat → Prop} {v : Value} {xs : List α} (h : IsS119 w0 W g f0 f1) (ho : d.R e W base ok v xs) (ht : ∀ q, q ∈ e :: d.E → q ≠ 119) : d.R e W base (fun k => ok k ∧ k ≠ g) v xs := by
 obtain ⟨hb, hg⟩ := h
 exact Kd.R_types ho hb ht
theorem IsS119.own_ne {w0 W : World} {g : Nat} {f0 : ByteArray} {f1 : Bool} {α : Type} {d : Kd α} {e : Nat} {base : Nat} {ok : Nat → Prop} {v : Value} {xs : List α} (h : IsS119 w0 W g f0 f1) (ho : d.R e W base ok v xs) (ht : e ≠ 119) : some g ≠ v.ownBlock := by
 obtain ⟨hb, hg⟩ := h
 exact Kd.R_ne ho hb ht
theorem IsS119.apartQ {w0 W : World} {g : Nat} {f0 : ByteArray} {f1 : Bool} {α : Type} {d : Kd α} {e : Nat} {base : Nat} {ok : Nat → Prop} {v : Value} {xs : List α} (h : IsS119 w0 W g f0 f1) (ho : d.Q e W base ok v xs) (ht : ∀ q, q ∈ e :: d.E → q ≠ 119) : d.Q e W base (fun k => ok k ∧ k ≠ g) v xs := by
 obtain ⟨hb, hg⟩ := h
 exact Kd.Q_types ho hb ht
theorem IsS119.own_neQ {w0 W : World} {g : Nat} {f0 : ByteArray} {f1 : Bool} {α : Type} {d : Kd α} {e : Nat} {base : Nat} {ok : Nat → Prop} {v : Value} {xs : List α} (h : IsS119 w0 W g f0 f1) (ho : d.Q e W base ok v xs) (ht : e ≠ 119) : some g ≠ v.ownBlock := by
 obtain ⟨hb, hg⟩ := h
 exact Kd.Q_ne ho hb ht
theorem IsS119.apartS {w0 W : World} {g : Nat} {f0 : ByteArray} {f1 : Bool} {α : Type} {d : Kd α} {e : Nat} {base : Nat} {ok : Nat → Prop} {v : Value} {xs : List α} (h : IsS119 w0 W g f0 f1) (ho : d.S e W base ok v xs) (ht : ∀ q, q ∈ e :: d.E → q ≠ 119) : d.S e W base (fun k => ok k ∧ k ≠ g) v xs := by
 obtain ⟨hb, hg⟩ := h
 exact Kd.S_types ho hb ht
theorem IsS119.own_neS {w0 W : World} {g : Nat} {f0 : ByteArray} {f1 : Bool} {α : Type} {d : Kd α} {e : Nat} {base : Nat} {ok : Nat → Prop} {v : Value} {xs : List α} (h : IsS119 w0 W g f0 f1) (ho : d.S e W base ok v xs) (ht : e ≠ 119) : some g ≠ v.ownBlock := by
 obtain ⟨hb, hg⟩ := h
 exact Kd.S_ne ho hb ht
theorem IsS119.lt {w0 W : World} {g : Nat} {f0 : ByteArray} {f1 : Bool} (h : IsS119 w0 W g f0 f1) : g < W.heap.size := by
 obtain ⟨hb, hg⟩ := h
 exact blk_lt hb
theorem IsS119.ge {w0 W : World} {g : Nat} {f0 : ByteArray} {f1 : Bool} (h : IsS119 w0 W g f0 f1) : w0.heap.size ≤ g := by
 obtain ⟨hb, hg⟩ := h
 exact hg
theorem IsS119.ne_blk {w0 W : World} {g : Nat} {f0 : ByteArray} {f1 : Bool} {a : Nat} {cs : Array Value} {t : TypeId} {fr : Nat × Nat} (h : IsS119 w0 W g f0 f1) (hb2 : W.heap[a]? = some (.cells cs t fr)) (ht : t ≠ 119) : g ≠ a := by
 obtain ⟨hb, hg⟩ := h
 rintro rfl
 rw [hb] at hb2
 injection hb2 with hb2
 injection hb2 with _ ht2
 exact ht ht2.symm
theorem IsS119.far {w0 W : World} {g : Nat} {f0 : ByteArray} {f1 : Bool} {p : Addr} (h : IsS119 w0 W g f0 f1) (hne : g ≠ p.block) (u : Value) : IsS119 w0 (W.setCell p u) g f0 f1 := by
 obtain ⟨hb, hg⟩ := h
 exact ⟨blk_far hb hne u, hg⟩
theorem cellS119_0 {W : World} {g : Nat} {f0 : ByteArray} {f1 : Bool} (h : W.heap[g]? = some (.cells #[.string f0, .bool f1] 119 (0, 0))) : W.cell? ⟨g, 0, none⟩ = some (.string f0) := (blk_cell h 0).trans rfl
theorem IsS119.set_0 {w0 W : World} {g : Nat} {f0 : ByteArray} {f1 : Bool} (h : IsS119 w0 W g f0 f1) (x : ByteArray) : IsS119 w0 (W.setCell ⟨g, 0, none⟩ (.string x)) g x f1 := by
 obtain ⟨hb, hg⟩ := h
 exact ⟨by simpa using blk_set hb 0 (.string x), hg⟩
theorem cellS119_1 {W : World} {g : Nat} {f0 : ByteArray} {f1 : Bool} (h : W.heap[g]? = some (.cells #[.string f0, .bool f1] 119 (0, 0))) : W.cell? ⟨g, 1, none⟩ = some (.bool f1) := (blk_cell h 1).trans rfl
theorem IsS119.set_1 {w0 W : World} {g : Nat} {f0 : ByteArray} {f1 : Bool} (h : IsS119 w0 W g f0 f1) (x : Bool) : IsS119 w0 (W.setCell ⟨g, 1, none⟩ (.bool x)) g f0 x := by
 obtain ⟨hb, hg⟩ := h
 exact ⟨by simpa using blk_set hb 1 (.bool x), hg⟩
theorem IsS119.new (w0 W : World) (f0 : ByteArray) (f1 : Bool) (hB : Below w0.heap.size w0 W) : IsS119 w0 (W.alloc (.cells #[.string f0, .bool f1] 119)) W.heap.size f0 f1 := ⟨by simpa using heap_alloc_new W _, hB.size⟩

/-! ### octets_Read: function 56 -/
def octets_Read.f (a0 : ByteArray) : Option (ByteArray × Bool) := some (a0, false)
set_option maxHeartbeats 64000000 in
set_option maxRecDepth 100000 in
theorem octets_Read.calls (a0 : ByteArray) (r1 : ByteArray) (r2 : Bool) (w0 w : World) (hB : Below w0.heap.size w0 w) (h : octets_Read.f a0 = some (r1, r2)) :
 Calls Tryd.prog 56 #[.string a0] w fun e w' => ∃ g_ : Nat, e = .returned (.pointer (some ⟨g_, 0, none⟩)) ∧ IsS119 w0 w' g_ r1 r2 ∧ Below w0.heap.size w0 w' ∧ Below w.heap.size w w' := by
 have hu119 := Tryd.underlying119
 have HBW := Aside0.mk (Below.refl w.heap.size w)
 have HW0 := Aside0.mk hB.size
 have HB := Aside0.mk hB
 clear hB
 have H : (some (a0, false)) = some (r1, r2) := h
 clear h
 simp only [Option.some.injEq, Prod.mk.injEq] at H
 obtain ⟨rfl, rfl⟩ := H
 go_enter Tryd.func56, Tryd.ntmps56
 go_wp2_with (first | ((with_reducible refine gate_dst (N := 5) rfl ?_); refine box_event ?hg (N := 5) ?hd (cs := #[.string a0, .bool false]) (t := 119) ?hr ?_; (case hd => rfl); (case hg => rfl); (case hr => exact gr_); intro gb410 hg w2 hbox hb; have GE410 := Aside0.mk ((Nat.le_trans HW0.out (by rw [hg]; exact (below_size (by repeat (first | (with_reducible first | exact HBW.out | apply lA_ | apply lN_ | apply lD_) | exact HBW.out))) : w.heap.size ≤ gb410) : w0.heap.size ≤ gb410)); have GW410 := Aside0.mk ((by rw [hg]; exact (below_size (by repeat (first | (with_reducible first | exact HBW.out | apply lA_ | apply lN_ | apply lD_) | exact HBW.out))) : w.heap.size ≤ gb410)); have BK410 := Aside0.mk (hbox); replace HB := Aside0.mk (below_step bl_ hb); replace HBW := Aside0.mk (below_step HBW.out hb); clear hb hbox hg))
 go_ret
 exact ⟨_, rfl, (show IsS119 w0 _ gb410 a0 false from ⟨mb_ BK410.out, GE410.out⟩), bs_ GE410.out, by repeat (first | (with_reducible first | exact HBW.out | apply lA_ | apply lN_ | apply lD_ | refine lS_ ?_ GW410.out) | exact HBW.out)⟩

end Go.Proofs.YtnfbagkeenjifaaDoor.PP
