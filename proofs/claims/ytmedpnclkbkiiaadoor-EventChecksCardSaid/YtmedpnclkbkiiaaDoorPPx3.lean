-- WRITTEN BY a program of this work (wip/ownprint.py), for this seat
import Derived.Test.YtmedpnclkbkiiaaDoorPPx0
import Derived.Test.YtmedpnclkbkiiaaDoorPPx2
namespace Go.Proofs.YtmedpnclkbkiiaaDoor.PP
open Go.RowKit Go.Proofs.YtmedpnclkbkiiaaDoorW.PrintWords Go.Proofs.YtmedpnclkbkiiaaDoorW.PrintLast Go.Proofs.YtmedpnclkbkiiaaDoorW.PrintMore
attribute [local go_sem] max2_int min2_int max_two min_two max_three min_three max_four min_four   -- for this text's walks alone
set_option linter.unusedVariables false
set_option linter.unusedSimpArgs false

/-! ### palaverref02_Sum: function 53 -/
mutual
def palaverref02_Sum.l0 : Nat → List Int → List Int → ByteArray → Int → Option (ByteArray)
 | 0, _, _, _, _ => none
 | k + 1, x3, x4, x5, x6 => if x6 < (x5.size : Int) then (palaverref02_Sum.l1 k x3 x4 x5 x6 (List.replicate 64 0) 0) else (palaverref02_Sum.l4 k x3 ([] : List Int) 0)
def palaverref02_Sum.l1 : Nat → List Int → List Int → ByteArray → Int → List Int → Int → Option (ByteArray)
 | 0, _, _, _, _, _, _ => none
 | k + 1, x3, x4, x5, x6, x7, x8 => if x8 < 64 then (if x8 < 16 then (if 0 ≤ (wrap64 (x6 + (wrap64 (4 * x8)))) then (if (wrap64 (x6 + (wrap64 (4 * x8)))) < (x5.size : Int) then (if 0 ≤ (wrap64 ((wrap64 (x6 + (wrap64 (4 * x8)))) + 1)) then (if (wrap64 ((wrap64 (x6 + (wrap64 (4 * x8)))) + 1)) < (x5.size : Int) then (if 0 ≤ (wrap64 ((wrap64 (x6 + (wrap64 (4 * x8)))) + 2)) then (if (wrap64 ((wrap64 (x6 + (wrap64 (4 * x8)))) + 2)) < (x5.size : Int) then (if 0 ≤ (wrap64 ((wrap64 (x6 + (wrap64 (4 * x8)))) + 3)) then (if (wrap64 ((wrap64 (x6 + (wrap64 (4 * x8)))) + 3)) < (x5.size : Int) then (if x7.length = 64 then (if 0 ≤ x8 then (if x8 < (x7.length : Int) then (palaverref02_Sum.l1 k x3 x4 x5 x6 (x7.set (x8 : Int).toNat (((((((bt x5 (wrap64 (x6 + (wrap64 (4 * x8))))) % 4294967296) * 16777216) + (((bt x5 (wrap64 ((wrap64 (x6 + (wrap64 (4 * x8)))) + 1))) % 4294967296) * 65536)) + (((bt x5 (wrap64 ((wrap64 (x6 + (wrap64 (4 * x8)))) + 2))) % 4294967296) * 256)) + (bt x5 (wrap64 ((wrap64 (x6 + (wrap64 (4 * x8)))) + 3)))) % 4294967296)) (wrap64 (x8 + 1))) else (none)) else (none)) else (none)) else (none)) else (none)) else (none)) else (none)) else (none)) else (none)) else (none)) else (none)) else (if x7.length = 64 then (if 0 ≤ (wrap64 (x8 - 15)) then (if (wrap64 (x8 - 15)) < (x7.length : Int) then ((palaverref02_turn.f (rd x7 (wrap64 (x8 - 15))) 7).bind fun t194 => ((palaverref02_turn.f (rd x7 (wrap64 (x8 - 15))) 18).bind fun t196 => (if 0 ≤ (wrap64 (x8 - 2)) then (if (wrap64 (x8 - 2)) < (x7.length : Int) then ((palaverref02_turn.f (rd x7 (wrap64 (x8 - 2))) 17).bind fun t199 => ((palaverref02_turn.f (rd x7 (wrap64 (x8 - 2))) 19).bind fun t201 => (if 0 ≤ (wrap64 (x8 - 16)) then (if (wrap64 (x8 - 16)) < (x7.length : Int) then (if 0 ≤ (wrap64 (x8 - 7)) then (if (wrap64 (x8 - 7)) < (x7.length : Int) then (if 0 ≤ x8 then (if x8 < (x7.length : Int) then (palaverref02_Sum.l1 k x3 x4 x5 x6 (x7.set (x8 : Int).toNat (((((rd x7 (wrap64 (x8 - 16))) + (Go.bits .xor .u32 (Go.bits .xor .u32 t194 t196) ((rd x7 (wrap64 (x8 - 15))) / 8))) + (rd x7 (wrap64 (x8 - 7)))) + (Go.bits .xor .u32 (Go.bits .xor .u32 t199 t201) ((rd x7 (wrap64 (x8 - 2))) / 1024))) % 4294967296)) (wrap64 (x8 + 1))) else (none)) else (none)) else (none)) else (none)) else (none)) else (none)))) else (none)) else (none)))) else (none)) else (none)) else (none))) else (if x3.length = 8 then (if 0 < (x3.length : Int) then (if 1 < (x3.length : Int) then (if 2 < (x3.length : Int) then (if 3 < (x3.length : Int) then (if 4 < (x3.length : Int) then (if 5 < (x3.length : Int) then (if 6 < (x3.length : Int) then (if 7 < (x3.length : Int) then (palaverref02_Sum.l2 k x3 x4 x5 x6 x7 (rd x3 0) (rd x3 1) (rd x3 2) (rd x3 3) (rd x3 4) (rd x3 5) (rd x3 6) (rd x3 7) 0) else (none)) else (none)) else (none)) else (none)) else (none)) else (none)) else (none)) else (none)) else (none))
def palaverref02_Sum.l2 : Nat → List Int → List Int → ByteArray → Int → List Int → Int → Int → Int → Int → Int → Int → Int → Int → Int → Option (ByteArray)
 | 0, _, _, _, _, _, _, _, _, _, _, _, _, _, _ => none
 | k + 1, x3, x4, x5, x6, x7, x11, x12, x13, x14, x15, x16, x17, x18, x19 => if x19 < 64 then ((palaverref02_turn.f x15 6).bind fun t214 => ((palaverref02_turn.f x15 11).bind fun t215 => ((palaverref02_turn.f x15 25).bind fun t216 => (if x4.length = 64 then (if 0 ≤ x19 then (if x19 < (x4.length : Int) then (if x7.length = 64 then (if x19 < (x7.length : Int) then ((palaverref02_turn.f x11 2).bind fun t219 => ((palaverref02_turn.f x11 13).bind fun t220 => ((palaverref02_turn.f x11 22).bind fun t221 => (palaverref02_Sum.l2 k x3 x4 x5 x6 x7 ((((((x18 + (Go.bits .xor .u32 (Go.bits .xor .u32 t214 t215) t216)) + (Go.bits .xor .u32 (Go.bits .and .u32 x15 x16) (Go.bits .and .u32 (Go.bits .xor .u32 4294967295 x15) x17))) + (rd x4 x19)) + (rd x7 x19)) + ((Go.bits .xor .u32 (Go.bits .xor .u32 t219 t220) t221) + (Go.bits .xor .u32 (Go.bits .xor .u32 (Go.bits .and .u32 x11 x12) (Go.bits .and .u32 x11 x13)) (Go.bits .and .u32 x12 x13)))) % 4294967296) x11 x12 x13 ((x14 + ((((x18 + (Go.bits .xor .u32 (Go.bits .xor .u32 t214 t215) t216)) + (Go.bits .xor .u32 (Go.bits .and .u32 x15 x16) (Go.bits .and .u32 (Go.bits .xor .u32 4294967295 x15) x17))) + (rd x4 x19)) + (rd x7 x19))) % 4294967296) x15 x16 x17 (wrap64 (x19 + 1)))))) else (none)) else (none)) else (none)) else (none)) else (none))))) else ((some (List.replicate 8 0 : List Int)).bind fun y222 => (if y222.length = 8 then (if 0 < (y222.length : Int) then (palaverref02_Sum.l3 k x3 x4 x5 x6 ([x11, x12, x13, x14, x15, x16, x17, x18]) 0) else (none)) else (none)))
def palaverref02_Sum.l3 : Nat → List Int → List Int → ByteArray → Int → List Int → Int → Option (ByteArray)
 | 0, _, _, _, _, _, _ => none
 | k + 1, x3, x4, x5, x6, x26, x27 => if x27 < 8 then (if x3.length = 8 then (if 0 ≤ x27 then (if x27 < (x3.length : Int) then (if x26.length = 8 then (if x27 < (x26.length : Int) then (palaverref02_Sum.l3 k (x3.set (x27 : Int).toNat (((rd x3 x27) + (rd x26 x27)) % 4294967296)) x4 x5 x6 x26 (wrap64 (x27 + 1))) else (none)) else (none)) else (none)) else (none)) else (none)) else (palaverref02_Sum.l0 k x3 x4 x5 (wrap64 (x6 + 64)))
def palaverref02_Sum.l4 : Nat → List Int → List Int → Int → Option (ByteArray)
 | 0, _, _, _ => none
 | k + 1, x3, x28, x29 => if x29 < 8 then (if x3.length = 8 then (if 0 ≤ x29 then (if x29 < (x3.length : Int) then ((some (([((rd x3 x29) / 16777216) % 256, ((rd x3 x29) / 65536) % 256, ((rd x3 x29) / 256) % 256, (rd x3 x29) % 256] : List Int) : List Int)).bind fun y233 => (if x28.length + y233.length < 140737488355328 then (palaverref02_Sum.l4 k x3 (x28 ++ y233) (wrap64 (x29 + 1))) else (none))) else (none)) else (none)) else (none)) else (some (strOfNums x28))
end
def palaverref02_Sum.f (k : Nat) (a0 : ByteArray) : Option (ByteArray) := (palaverref02_Starts.f).bind fun _ => ((some (List.replicate 8 0 : List Int)).bind fun y180 => (if y180.length = 8 then (if 0 < (y180.length : Int) then ((palaverref02_table.f).bind fun _ => ((some (List.replicate 64 0 : List Int)).bind fun y184 => (if y184.length = 64 then (if 0 < (y184.length : Int) then ((palaverref02_Padded.f k a0).bind fun t188 => (palaverref02_Sum.l0 k ([1779033703, 3144134277, 1013904242, 2773480762, 1359893119, 2600822924, 528734635, 1541459225]) ([1116352408, 1899447441, 3049323471, 3921009573, 961987163, 1508970993, 2453635748, 2870763221, 3624381080, 310598401, 607225278, 1426881987, 1925078388, 2162078206, 2614888103, 3248222580, 3835390401, 4022224774, 264347078, 604807628, 770255983, 1249150122, 1555081692, 1996064986, 2554220882, 2821834349, 2952996808, 3210313671, 3336571891, 3584528711, 113926993, 338241895, 666307205, 773529912, 1294757372, 1396182291, 1695183700, 1986661051, 2177026350, 2456956037, 2730485921, 2820302411, 3259730800, 3345764771, 3516065817, 3600352804, 4094571909, 275423344, 430227734, 506948616, 659060556, 883997877, 958139571, 1322822218, 1537002063, 1747873779, 1955562222, 2024104815, 2227730452, 2361852424, 2428436474, 2756734187, 3204031479, 3329325298]) t188 0)) else (none)) else (none)))) else (none)) else (none)))
theorem palaverref02_Sum.mono_l : ∀ k, (∀ y0 y1 y2 y3, LeO (palaverref02_Sum.l0 k y0 y1 y2 y3) (palaverref02_Sum.l0 (k + 1) y0 y1 y2 y3)) ∧ (∀ y0 y1 y2 y3 y4 y5, LeO (palaverref02_Sum.l1 k y0 y1 y2 y3 y4 y5) (palaverref02_Sum.l1 (k + 1) y0 y1 y2 y3 y4 y5)) ∧ (∀ y0 y1 y2 y3 y4 y5 y6 y7 y8 y9 y10 y11 y12 y13, LeO (palaverref02_Sum.l2 k y0 y1 y2 y3 y4 y5 y6 y7 y8 y9 y10 y11 y12 y13) (palaverref02_Sum.l2 (k + 1) y0 y1 y2 y3 y4 y5 y6 y7 y8 y9 y10 y11 y12 y13)) ∧ (∀ y0 y1 y2 y3 y4 y5, LeO (palaverref02_Sum.l3 k y0 y1 y2 y3 y4 y5) (palaverref02_Sum.l3 (k + 1) y0 y1 y2 y3 y4 y5)) ∧ (∀ y0 y1 y2, LeO (palaverref02_Sum.l4 k y0 y1 y2) (palaverref02_Sum.l4 (k + 1) y0 y1 y2))
 | 0 => ⟨fun _ _ _ _ r h => by simp [palaverref02_Sum.l0] at h, fun _ _ _ _ _ _ r h => by simp [palaverref02_Sum.l1] at h, fun _ _ _ _ _ _ _ _ _ _ _ _ _ _ r h => by simp [palaverref02_Sum.l2] at h, fun _ _ _ _ _ _ r h => by simp [palaverref02_Sum.l3] at h, fun _ _ _ r h => by simp [palaverref02_Sum.l4] at h⟩
 | k + 1 => by
  obtain ⟨ih0, ih1, ih2, ih3, ih4⟩ := palaverref02_Sum.mono_l k
  refine ⟨?_, ?_, ?_, ?_, ?_⟩ <;> intros <;> (first | unfold palaverref02_Sum.l0 | unfold palaverref02_Sum.l1 | unfold palaverref02_Sum.l2 | unfold palaverref02_Sum.l3 | unfold palaverref02_Sum.l4) <;> repeat' first
  | (with_reducible exact ih0 _ _ _ _)
  | (with_reducible exact ih1 _ _ _ _ _ _)
  | (with_reducible exact ih2 _ _ _ _ _ _ _ _ _ _ _ _ _ _)
  | (with_reducible exact ih3 _ _ _ _ _ _)
  | (with_reducible exact ih4 _ _ _)
  | (with_reducible exact palaverref02_Padded.mono _ _)
  | (with_reducible exact LeO.refl _)
  | (with_reducible exact LeO.none _)
  | (with_reducible refine LeO.ite ?_ ?_)
  | (with_reducible refine LeO.bind ?_ (fun _ => ?_))
  | exact ih0 _ _ _ _
  | exact ih1 _ _ _ _ _ _
  | exact ih2 _ _ _ _ _ _ _ _ _ _ _ _ _ _
  | exact ih3 _ _ _ _ _ _
  | exact ih4 _ _ _
  | exact palaverref02_Padded.mono _ _
  | exact LeO.none _
  | refine LeO.ite ?_ ?_
  | refine LeO.bind ?_ (fun _ => ?_)
theorem palaverref02_Sum.mono : ∀ a0 k, LeO (palaverref02_Sum.f k a0) (palaverref02_Sum.f (k + 1) a0) := by
 intro a0 k
 obtain ⟨ih0, ih1, ih2, ih3, ih4⟩ := palaverref02_Sum.mono_l k
 unfold palaverref02_Sum.f
 repeat' first
  | (with_reducible exact ih0 _ _ _ _)
  | (with_reducible exact ih1 _ _ _ _ _ _)
  | (with_reducible exact ih2 _ _ _ _ _ _ _ _ _ _ _ _ _ _)
  | (with_reducible exact ih3 _ _ _ _ _ _)
  | (with_reducible exact ih4 _ _ _)
  | (with_reducible exact palaverref02_Padded.mono _ _)
  | (with_reducible exact LeO.refl _)
  | (with_reducible exact LeO.none _)
  | (with_reducible refine LeO.ite ?_ ?_)
  | (with_reducible refine LeO.bind ?_ (fun _ => ?_))
  | exact ih0 _ _ _ _
  | exact ih1 _ _ _ _ _ _
  | exact ih2 _ _ _ _ _ _ _ _ _ _ _ _ _ _
  | exact ih3 _ _ _ _ _ _
  | exact ih4 _ _ _
  | exact palaverref02_Padded.mono _ _
  | exact LeO.none _
  | refine LeO.ite ?_ ?_
  | refine LeO.bind ?_ (fun _ => ?_)
def palaverref02_Sum.T12 : Bool × List (List Nat × List Nat) := (true, [([], []), ([], []), ([], []), ([], []), ([3], [3]), ([2, 4], [2, 4]), ([1, 5], [1, 5]), ([6], [6]), ([7], [7]), ([], []), ([], []), ([], []), ([11], [11]), ([10, 12], [10, 12]), ([13], [13]), ([9, 14], [9, 14]), ([15], [15]), ([16], [16]), ([8, 17], [8, 17]), ([], []), ([], []), ([], []), ([21], [21]), ([20, 22], [20, 22]), ([23], [23]), ([19, 24], [19, 24]), ([25], [25]), ([26], [26]), ([18, 27], [18, 27]), ([], []), ([], []), ([], []), ([31], [31]), ([30, 32], [30, 32]), ([33], [33]), ([29, 34], [29, 34]), ([35], [35]), ([28, 36], [28, 36]), ([0, 0, 1, 2, 3, 4, 5, 6, 7, 8, 9, 10, 11, 12, 13, 14, 15, 16, 17, 18, 19, 20, 21, 22, 23, 24, 25, 26, 27, 28, 29, 30, 31, 32, 33, 34, 35, 36, 37], [0]), ([38, 37, 0, 1, 2, 3, 4, 5, 6, 7, 8, 9, 10, 11, 12, 13, 14, 15, 16, 17, 18, 19, 20, 21, 22, 23, 24, 25, 26, 27, 28, 29, 30, 31, 32, 33, 34, 35, 36, 37], [37, 38])])
def palaverref02_Sum.B12 : List Nat := [0, 0, 0, 0, 8, 28, 62, 126, 254, 0, 0, 0, 2048, 7168, 15360, 32256, 65024, 130560, 262142, 0, 0, 0, 2097152, 7340032, 15728640, 33030144, 66584576, 133693440, 268435454, 0, 0, 0, 2147483648, 7516192768, 16106127360, 33822867456, 68182605824, 137438953470, 274877906943, 549755813887]
theorem palaverref02_Sum.tab12 : rtab .any (opsOf Tryd.f53 12) = palaverref02_Sum.T12 := by kernel_rfl
theorem palaverref02_Sum.bits12 : waitsOk palaverref02_Sum.T12.2 palaverref02_Sum.B12 = true := by kernel_rfl
def palaverref02_Sum.T13 : Bool × List (List Nat × List Nat) := (true, [([], []), ([0], [0]), ([1], [1]), ([2], [2]), ([3], [3]), ([], []), ([5], [5]), ([6], [6]), ([7], [7]), ([8, 4], [8]), ([4, 9], [4, 9]), ([], []), ([11], [11]), ([12], [12]), ([13], [13]), ([14], [14]), ([10, 15], [10, 15]), ([16, 9, 0, 1, 2, 3, 4, 5, 6, 7, 8, 9, 10, 11, 12, 13, 14, 15, 16], [16])])
def palaverref02_Sum.B13 : List Nat := [0, 1, 3, 7, 15, 0, 32, 96, 224, 511, 1023, 0, 2048, 6144, 14336, 30720, 65535, 131071]
theorem palaverref02_Sum.tab13 : rtab .any (opsOf Tryd.f53 13) = palaverref02_Sum.T13 := by kernel_rfl
theorem palaverref02_Sum.bits13 : waitsOk palaverref02_Sum.T13.2 palaverref02_Sum.B13 = true := by kernel_rfl
def palaverref02_Sum.T14 : Bool × List (List Nat × List Nat) := (true, [([], []), ([0], [0]), ([1], [1]), ([2], [2]), ([3], [3]), ([], []), ([5], [5]), ([6], [6]), ([7], [7]), ([8, 4], [8]), ([4, 9], [4, 9]), ([], []), ([11], [11]), ([12], [12]), ([13], [13]), ([14], [14]), ([10, 15], [10, 15]), ([16, 9, 0, 1, 2, 3, 4, 5, 6, 7, 8, 9, 10, 11, 12, 13, 14, 15, 16], [16])])
def palaverref02_Sum.B14 : List Nat := [0, 1, 3, 7, 15, 0, 32, 96, 224, 511, 1023, 0, 2048, 6144, 14336, 30720, 65535, 131071]
theorem palaverref02_Sum.tab14 : rtab .any (opsOf Tryd.f53 14) = palaverref02_Sum.T14 := by kernel_rfl
theorem palaverref02_Sum.bits14 : waitsOk palaverref02_Sum.T14.2 palaverref02_Sum.B14 = true := by kernel_rfl
def palaverref02_Sum.T15 : Bool × List (List Nat × List Nat) := (true, [([], []), ([], []), ([1], [1]), ([2], [2]), ([3], [3]), ([], []), ([4, 5], [4, 5]), ([], []), ([7], [7]), ([8], [8]), ([9], [9]), ([6, 10], [6, 10]), ([], []), ([11, 12], [11, 12]), ([0, 0, 1, 2, 3, 4, 5, 6, 7, 8, 9, 10, 11, 12, 13], [0]), ([14, 13, 0, 1, 2, 3, 4, 5, 6, 7, 8, 9, 10, 11, 12, 13], [13, 14])])
def palaverref02_Sum.B15 : List Nat := [0, 0, 2, 6, 14, 0, 62, 0, 128, 384, 896, 2046, 0, 8190, 16383, 32767]
theorem palaverref02_Sum.tab15 : rtab .any (opsOf Tryd.f53 15) = palaverref02_Sum.T15 := by kernel_rfl
theorem palaverref02_Sum.bits15 : waitsOk palaverref02_Sum.T15.2 palaverref02_Sum.B15 = true := by kernel_rfl
def palaverref02_Sum.T16 : Bool × List (List Nat × List Nat) := (true, [([], []), ([0], [0]), ([], []), ([2], [2]), ([], []), ([4], [4]), ([], []), ([6], [6]), ([], []), ([8], [8]), ([], []), ([10], [10]), ([], []), ([12], [12]), ([], []), ([14], [14]), ([1, 0, 1], [1]), ([3, 16, 0, 1, 2, 3, 16], [3]), ([5, 17, 0, 1, 2, 3, 4, 5, 16, 17], [5]), ([7, 18, 0, 1, 2, 3, 4, 5, 6, 7, 16, 17, 18], [7]), ([9, 19, 0, 1, 2, 3, 4, 5, 6, 7, 8, 9, 16, 17, 18, 19], [9]), ([11, 20, 0, 1, 2, 3, 4, 5, 6, 7, 8, 9, 10, 11, 16, 17, 18, 19, 20], [11]), ([13, 21, 0, 1, 2, 3, 4, 5, 6, 7, 8, 9, 10, 11, 12, 13, 16, 17, 18, 19, 20, 21], [13]), ([15, 22, 0, 1, 2, 3, 4, 5, 6, 7, 8, 9, 10, 11, 12, 13, 14, 15, 16, 17, 18, 19, 20, 21, 22], [15])])
def palaverref02_Sum.B16 : List Nat := [0, 1, 0, 4, 0, 16, 0, 64, 0, 256, 0, 1024, 0, 4096, 0, 16384, 3, 65551, 196671, 459007, 984063, 2035711, 4145151, 8388607]
theorem palaverref02_Sum.tab16 : rtab .any (opsOf Tryd.f53 16) = palaverref02_Sum.T16 := by kernel_rfl
theorem palaverref02_Sum.bits16 : waitsOk palaverref02_Sum.T16.2 palaverref02_Sum.B16 = true := by kernel_rfl
def palaverref02_Sum.T22 : Bool × List (List Nat × List Nat) := (true, [([], []), ([], []), ([0, 1], [0, 1]), ([], []), ([2, 3], [2, 3]), ([], []), ([5], [5]), ([6], [6]), ([4, 7], [4, 7]), ([], []), ([9], [9]), ([10], [10]), ([8, 11], [8, 11]), ([12, 0, 1, 2, 3, 4, 5, 6, 7, 8, 9, 10, 11, 12], [12])])
def palaverref02_Sum.B22 : List Nat := [0, 0, 3, 0, 15, 0, 32, 96, 255, 0, 512, 1536, 4095, 8191]
theorem palaverref02_Sum.tab22 : rtab .any (opsOf Tryd.f53 22) = palaverref02_Sum.T22 := by kernel_rfl
theorem palaverref02_Sum.bits22 : waitsOk palaverref02_Sum.T22.2 palaverref02_Sum.B22 = true := by kernel_rfl
def palaverref02_Sum.T38 : Bool × List (List Nat × List Nat) := (true, [([], []), ([], []), ([1], [1]), ([2], [2]), ([], []), ([4], [4]), ([5], [5]), ([3, 6], [3, 6]), ([0, 0, 1, 2, 3, 4, 5, 6, 7], [0]), ([8, 7, 0, 1, 2, 3, 4, 5, 6, 7], [7, 8])])
def palaverref02_Sum.B38 : List Nat := [0, 0, 2, 6, 0, 16, 48, 126, 255, 511]
theorem palaverref02_Sum.tab38 : rtab .any (opsOf Tryd.f53 38) = palaverref02_Sum.T38 := by kernel_rfl
theorem palaverref02_Sum.bits38 : waitsOk palaverref02_Sum.T38.2 palaverref02_Sum.B38 = true := by kernel_rfl
def palaverref02_Sum.T43 : Bool × List (List Nat × List Nat) := (true, [([], []), ([], []), ([1], [1]), ([2], [2]), ([3], [3]), ([4], [4]), ([], []), ([6], [6]), ([7], [7]), ([8], [8]), ([9], [9]), ([], []), ([11], [11]), ([12], [12]), ([13], [13]), ([14], [14]), ([], []), ([16], [16]), ([17], [17]), ([18], [18]), ([5, 10, 15, 19], [5, 10, 15, 19]), ([0, 20], [0, 20]), ([21, 21, 0, 1, 2, 3, 4, 5, 6, 7, 8, 9, 10, 11, 12, 13, 14, 15, 16, 17, 18, 19, 20, 21], [0, 21])])
def palaverref02_Sum.B43 : List Nat := [0, 0, 2, 6, 14, 30, 0, 64, 192, 448, 960, 0, 2048, 6144, 14336, 30720, 0, 65536, 196608, 458752, 1048574, 2097151, 4194303]
theorem palaverref02_Sum.tab43 : rtab .any (opsOf Tryd.f53 43) = palaverref02_Sum.T43 := by kernel_rfl
theorem palaverref02_Sum.bits43 : waitsOk palaverref02_Sum.T43.2 palaverref02_Sum.B43 = true := by kernel_rfl
set_option maxHeartbeats 64000000 in
set_option maxRecDepth 100000 in
theorem palaverref02_Sum.calls (k : Nat) (a0 : ByteArray) (r : ByteArray) (w : World) (h : palaverref02_Sum.f k a0 = some r) :
 Calls Tryd.prog 53 #[.string a0] w fun e w' => e = .returned (.string r) ∧ Below w.heap.size w w' := by
 have hu105 := Tryd.underlying105
 have hu113 := Tryd.underlying113
 have HB := Aside0.mk (Below.refl w.heap.size w)
 have H : ((palaverref02_Starts.f).bind fun _ => ((some (List.replicate 8 0 : List Int)).bind fun y180 => (if y180.length = 8 then (if 0 < (y180.length : Int) then ((palaverref02_table.f).bind fun _ => ((some (List.replicate 64 0 : List Int)).bind fun y184 => (if y184.length = 64 then (if 0 < (y184.length : Int) then ((palaverref02_Padded.f k a0).bind fun t188 => (palaverref02_Sum.l0 k ([1779033703, 3144134277, 1013904242, 2773480762, 1359893119, 2600822924, 528734635, 1541459225]) ([1116352408, 1899447441, 3049323471, 3921009573, 961987163, 1508970993, 2453635748, 2870763221, 3624381080, 310598401, 607225278, 1426881987, 1925078388, 2162078206, 2614888103, 3248222580, 3835390401, 4022224774, 264347078, 604807628, 770255983, 1249150122, 1555081692, 1996064986, 2554220882, 2821834349, 2952996808, 3210313671, 3336571891, 3584528711, 113926993, 338241895, 666307205, 773529912, 1294757372, 1396182291, 1695183700, 1986661051, 2177026350, 2456956037, 2730485921, 2820302411, 3259730800, 3345764771, 3516065817, 3600352804, 4094571909, 275423344, 430227734, 506948616, 659060556, 883997877, 958139571, 1322822218, 1537002063, 1747873779, 1955562222, 2024104815, 2227730452, 2361852424, 2428436474, 2756734187, 3204031479, 3329325298]) t188 0)) else (none)) else (none)))) else (none)) else (none)))) = some r := h
 clear h
 revert H; refine oa_ fun _ A2 => oy_ fun y180 Ny180 => ne_ fun c3 c3b0 c3b1 => nd_ fun c4 c4b0 H => ?_
 have c4b1 : decide (0 < y180.length) = true := decide_eq_true (by omega)
 clear c3 c4
 generalize e_ : ([1779033703, 3144134277, 1013904242, 2773480762, 1359893119, 2600822924, 528734635, 1541459225] : List Int) = y183 at H
 have Ny183 := Aside0.mk e_.symm
 clear e_
 revert H; refine oa_ fun _ A6 => oy_ fun y184 Ny184 => ne_ fun c7 c7b0 c7b1 => nd_ fun c8 c8b0 H => ?_
 have c8b1 : decide (0 < y184.length) = true := decide_eq_true (by omega)
 clear c7 c8
 generalize e_ : ([1116352408, 1899447441, 3049323471, 3921009573, 961987163, 1508970993, 2453635748, 2870763221, 3624381080, 310598401, 607225278, 1426881987, 1925078388, 2162078206, 2614888103, 3248222580, 3835390401, 4022224774, 264347078, 604807628, 770255983, 1249150122, 1555081692, 1996064986, 2554220882, 2821834349, 2952996808, 3210313671, 3336571891, 3584528711, 113926993, 338241895, 666307205, 773529912, 1294757372, 1396182291, 1695183700, 1986661051, 2177026350, 2456956037, 2730485921, 2820302411, 3259730800, 3345764771, 3516065817, 3600352804, 4094571909, 275423344, 430227734, 506948616, 659060556, 883997877, 958139571, 1322822218, 1537002063, 1747873779, 1955562222, 2024104815, 2227730452, 2361852424, 2428436474, 2756734187, 3204031479, 3329325298] : List Int) = y187 at H
 have Ny187 := Aside0.mk e_.symm
 clear e_
 revert H; refine oa_ fun t188 A10 H => ?_
 have H' := Aside0.mk H
 clear H
 go_enter Tryd.func53, Tryd.ntmps53
 go_wp2_with (first | ((with_reducible refine gate_callee (f := 76) rfl ?_); refine gL_ 30 Tryd.func76 #[] ?_; (with_reducible refine (palaverref02_Starts.calls   _ A2.out).mono ?_); rintro e w11 ⟨rfl, hb⟩; refine ⟨_, rfl, ?_⟩; replace HB := Aside0.mk (below_step bl_ hb); clear hb) | ((with_reducible refine gate_dst (N := 3) rfl ?_); refine R_arr (Value.int .u32) (fun _ => rfl) _ 105 ?hg (N := 3) ?hd (List.replicate 8 0) ?hr (Below.refl _ _) (Nat.le_refl _) (by decide) ?_; (case hd => rfl); (case hg => rfl); (case hr => exact gr_); intro v181 w12 ho13 hb hg_ hnew_; clear hg_ hnew_; (first | rw [← Ny180.out] at ho13 | (simp only [Int.reduceToNat] at ho13; rw [← Ny180.out] at ho13)); have HO182 := Aside0.mk (Kd.R_lower ho13 (below_size bl_)); replace HB := Aside0.mk (below_step bl_ hb); clear hb ho13; have qa5 : ((0 : Int) < (8 : Int)) = True := eq_true (by have e_ : y180.length = 8 := ad_; have h_ : (0 : Int) < ((y180.length : Int) : Int) := ad_; omega); have p5 : 0 ≤ (0 : Int) := (by omega); have q5 : (0 : Int) < ((y180.length : Int) : Int) := ad_; have qi5 : (0 < y180.length) = True := eq_true (by omega); obtain ⟨go5, co5, eo5, gb5, gl5, cl5, HG5⟩ := Kd.R_form HO182.out (by omega); (first | cases eo5 | (injection eo5 with ea_ en_ ec_; (first | subst ea_ | (injection ea_ with ea_; subst ea_)); subst ec_; clear en_)); have GB5 := Aside0.mk gb5; have GG5 := Aside0.mk HG5; clear gb5 gl5 HG5; obtain ⟨hx5_0, hf5_0⟩ := Kd.R_celln 0 HO182.out (0 : Int) p5 q5; (rw [show ((0 : Int)).toNat = 0 from rfl] at hx5_0); (rw [show ((0 : Int)).toNat = 0 from rfl] at hf5_0); replace p5 := eq_true p5; replace q5 := eq_true q5; have HP14 := R_whole (ys := [1779033703, 3144134277, 1013904242, 2773480762, 1359893119, 2600822924, 528734635, 1541459225]) HO182.out (by have e_ : y180.length = 8 := ad_; have e2_ := (Kd.R_reads' HO182.out).1; first | (rw [e_]; rfl) | (simp only [List.length_cons, List.length_nil]; omega))) | ((with_reducible refine gate_store (t := 105) (p := 3) rfl ?_); refine store_event (t := 105) (p := 3) (v := ?vo_w15) (w1 := (w12.setCells go5 0 (encs (Value.int .u32) [1779033703, 3144134277, 1013904242, 2773480762, 1359893119, 2600822924, 528734635, 1541459225]))) ?hg ?ho ?hn ?hr ?_; (case ho => rfl); (case hg => rfl); (case hn => rfl); (case hr => exact whole_run (ys := [1779033703, 3144134277, 1013904242, 2773480762, 1359893119, 2600822924, 528734635, 1541459225]) rfl rfl rfl (by kernel_rfl) HO182.out (by have e_ : y180.length = 8 := ad_; have e2_ := (Kd.R_reads' HO182.out).1; first | (rw [e_]; rfl) | (simp only [List.length_cons, List.length_nil]; omega))); intro w15 hw; have hg : w12.grownBy w15 (some go5) := (by rw [hw]; exact HP14.2); have hp_ : Kd.R (Kd.int .u32) 105 w15 w.heap.size (fun _ => True) (.slice (some ⟨go5, 0, none⟩) y180.length co5) y183 := (by rw [hw, Ny183.out]; exact HP14.1); clear HP14; replace HB := Aside0.mk ((Below.grown HB.out hg (below_size HB.out) (fun k_ e_ => (Option.some.inj e_) ▸ GB5.out) : Below w.heap.size w w15)); replace HO182 := Aside0.mk (hp_); clear hg hw hp_) | ((with_reducible refine gate_callee (f := 77) rfl ?_); refine gL_ 31 Tryd.func77 #[] ?_; (with_reducible refine (palaverref02_table.calls   _ A6.out).mono ?_); rintro e w16 ⟨rfl, hb⟩; refine ⟨_, rfl, ?_⟩; replace HB := Aside0.mk (below_step bl_ hb); replace HO182 := Aside0.mk (Kd.R_below (mv_ HO182.out) hb); clear hb) | ((with_reducible refine gate_dst (N := 4) rfl ?_); refine R_arr (Value.int .u32) (fun _ => rfl) _ 113 ?hg (N := 4) ?hd (List.replicate 64 0) ?hr (Below.refl _ _) (Nat.le_refl _) (by decide) ?_; (case hd => rfl); (case hg => rfl); (case hr => exact gr_); intro v185 w17 ho18 hb hg_ hnew_; clear hg_ hnew_; (first | rw [← Ny184.out] at ho18 | (simp only [Int.reduceToNat] at ho18; rw [← Ny184.out] at ho18)); have HO186 := Aside0.mk (Kd.R_lower ho18 (below_size bl_)); replace HB := Aside0.mk (below_step bl_ hb); replace HO182 := Aside0.mk (Kd.R_below (mv_ HO182.out) hb); clear hb ho18; have qa9 : ((0 : Int) < (64 : Int)) = True := qa_ y184 64; have p9 : 0 ≤ (0 : Int) := (by omega); have q9 : (0 : Int) < ((y184.length : Int) : Int) := ad_; have qi9 : (0 < y184.length) = True := eq_true (by omega); obtain ⟨go9, co9, eo9, gb9, gl9, cl9, HG9⟩ := Kd.R_form HO186.out (by omega); (first | cases eo9 | (injection eo9 with ea_ en_ ec_; (first | subst ea_ | (injection ea_ with ea_; subst ea_)); subst ec_; clear en_)); have GB9 := Aside0.mk gb9; have GG9 := Aside0.mk HG9; clear gb9 gl9 HG9; obtain ⟨hx9_0, hf9_0⟩ := Kd.R_celln 0 HO186.out (0 : Int) p9 q9; (rw [show ((0 : Int)).toNat = 0 from rfl] at hx9_0); (rw [show ((0 : Int)).toNat = 0 from rfl] at hf9_0); replace p9 := eq_true p9; replace q9 := eq_true q9; have HP19 := R_whole (ys := [1116352408, 1899447441, 3049323471, 3921009573, 961987163, 1508970993, 2453635748, 2870763221, 3624381080, 310598401, 607225278, 1426881987, 1925078388, 2162078206, 2614888103, 3248222580, 3835390401, 4022224774, 264347078, 604807628, 770255983, 1249150122, 1555081692, 1996064986, 2554220882, 2821834349, 2952996808, 3210313671, 3336571891, 3584528711, 113926993, 338241895, 666307205, 773529912, 1294757372, 1396182291, 1695183700, 1986661051, 2177026350, 2456956037, 2730485921, 2820302411, 3259730800, 3345764771, 3516065817, 3600352804, 4094571909, 275423344, 430227734, 506948616, 659060556, 883997877, 958139571, 1322822218, 1537002063, 1747873779, 1955562222, 2024104815, 2227730452, 2361852424, 2428436474, 2756734187, 3204031479, 3329325298]) HO186.out (by have e_ : y184.length = 64 := ad_; have e2_ := (Kd.R_reads' HO186.out).1; first | (rw [e_]; rfl) | (simp only [List.length_cons, List.length_nil]; omega))) | ((with_reducible refine gate_store (t := 113) (p := 4) rfl ?_); refine store_event (t := 113) (p := 4) (v := ?vo_w20) (w1 := (w17.setCells go9 0 (encs (Value.int .u32) [1116352408, 1899447441, 3049323471, 3921009573, 961987163, 1508970993, 2453635748, 2870763221, 3624381080, 310598401, 607225278, 1426881987, 1925078388, 2162078206, 2614888103, 3248222580, 3835390401, 4022224774, 264347078, 604807628, 770255983, 1249150122, 1555081692, 1996064986, 2554220882, 2821834349, 2952996808, 3210313671, 3336571891, 3584528711, 113926993, 338241895, 666307205, 773529912, 1294757372, 1396182291, 1695183700, 1986661051, 2177026350, 2456956037, 2730485921, 2820302411, 3259730800, 3345764771, 3516065817, 3600352804, 4094571909, 275423344, 430227734, 506948616, 659060556, 883997877, 958139571, 1322822218, 1537002063, 1747873779, 1955562222, 2024104815, 2227730452, 2361852424, 2428436474, 2756734187, 3204031479, 3329325298]))) ?hg ?ho ?hn ?hr ?_; (case ho => rfl); (case hg => rfl); (case hn => rfl); (case hr => exact whole_run (ys := [1116352408, 1899447441, 3049323471, 3921009573, 961987163, 1508970993, 2453635748, 2870763221, 3624381080, 310598401, 607225278, 1426881987, 1925078388, 2162078206, 2614888103, 3248222580, 3835390401, 4022224774, 264347078, 604807628, 770255983, 1249150122, 1555081692, 1996064986, 2554220882, 2821834349, 2952996808, 3210313671, 3336571891, 3584528711, 113926993, 338241895, 666307205, 773529912, 1294757372, 1396182291, 1695183700, 1986661051, 2177026350, 2456956037, 2730485921, 2820302411, 3259730800, 3345764771, 3516065817, 3600352804, 4094571909, 275423344, 430227734, 506948616, 659060556, 883997877, 958139571, 1322822218, 1537002063, 1747873779, 1955562222, 2024104815, 2227730452, 2361852424, 2428436474, 2756734187, 3204031479, 3329325298]) rfl rfl rfl (by kernel_rfl) HO186.out (by have e_ : y184.length = 64 := ad_; have e2_ := (Kd.R_reads' HO186.out).1; first | (rw [e_]; rfl) | (simp only [List.length_cons, List.length_nil]; omega))); intro w20 hw; have hg : w17.grownBy w20 (some go9) := (by rw [hw]; exact HP19.2); have hp_ : Kd.R (Kd.int .u32) 113 w20 w.heap.size (fun _ => True) (.slice (some ⟨go9, 0, none⟩) y184.length co9) y187 := (by rw [hw, Ny187.out]; exact HP19.1); clear HP19; replace HB := Aside0.mk ((Below.grown HB.out hg (below_size HB.out) (fun k_ e_ => (Option.some.inj e_) ▸ GB9.out) : Below w.heap.size w w20)); replace HO182 := Aside0.mk (Kd.R_over' (v := (.slice (some ⟨go9, 0, none⟩) y184.length co9)) (mv_ HO182.out) (Kd.R_typed HO186.out) (by decide) hg); replace HO186 := Aside0.mk (hp_); clear hg hw hp_) | ((with_reducible refine gate_callee (f := 78) rfl ?_); refine gL_ 33 Tryd.func78 #[.string a0] ?_; (with_reducible refine (palaverref02_Padded.calls k a0 t188 _ A10.out).mono ?_); rintro e w21 ⟨rfl, hb⟩; refine ⟨_, rfl, ?_⟩; replace HB := Aside0.mk (below_step bl_ hb); replace HO186 := Aside0.mk (Kd.R_below (mv_ HO186.out) hb); replace HO182 := Aside0.mk (Kd.R_below (mv_ HO182.out) hb); clear hb))
 go_loopg [6] k (fun kq v6 w' => ∃ (x3_1 : List Int) (x4_1 : List Int) (x6_1 : Int), v6 = .int .i64 x6_1 ∧ Aside0 (palaverref02_Sum.l0 kq x3_1 x4_1 t188 x6_1 = some r) ∧ Aside0 (kq ≤ k) ∧ Aside0 (Kd.R (Kd.int .u32) 105 w' w.heap.size (fun _ => True) (.slice (some ⟨go5, 0, none⟩) y180.length co5) x3_1) ∧ Aside0 (Kd.R (Kd.int .u32) 113 w' w.heap.size (fun _ => True) (.slice (some ⟨go9, 0, none⟩) y184.length co9) x4_1) ∧ Aside0 (Below w.heap.size w w'))
 case atStart => exact ⟨(y183), (y187), (0), vq_, H', ⟨Nat.le_refl _⟩, ⟨mv_ HO182.out⟩, ⟨mv_ HO186.out⟩, ⟨bl_⟩⟩
 case round =>
  clear H'
  clear c3b0 c3b1 c4b0 c4b1 p5 q5 qi5 c7b0 c7b1 c8b0 c8b1 p9 q9 qi9 hx5_0 hx9_0
  obtain ⟨x3_1, x4_1, x6_1, rfl, HA, HK1, HO_3, HO_4, HB⟩ := hrel
  have hl3_1 := (Kd.R_reads' HO_3.out).1
  rw [hl3_1] at HO_3
  simp only [hl3_1]
  have hl4_1 := (Kd.R_reads' HO_4.out).1
  rw [hl4_1] at HO_4
  simp only [hl4_1]
  cases gk with
  | zero => exact absurd HA.out (by simp [palaverref02_Sum.l0])
  | succ k1 =>
   have H := HA.out
   clear HA
   simp only [palaverref02_Sum.l0] at H
   by_cases c22 : x6_1 < (t188.size : Int)
   ·refine Nonempty.elim ?gc22p id
    letI i_ : type_of% ?gc22p := ⟨by
    rw [if_pos c22] at H
    have c22b0 : decide (x6_1 < (t188.size : Int)) = true := decide_eq_true c22
    clear c22
    generalize e_ : (List.replicate 64 0 : List Int) = y189 at H
    have Ny189 := Aside0.mk e_.symm
    clear e_
    have H' := Aside0.mk H
    clear H
    go_wp2_with (first | ((with_reducible refine gate_dst (N := 7) rfl ?_); refine R_arr (Value.int .u32) (fun _ => rfl) _ 113 ?hg (N := 7) ?hd (List.replicate 64 0) ?hr (Below.refl _ _) (Nat.le_refl _) (by decide) ?_; (case hd => rfl); (case hg => rfl); (case hr => exact gr_); intro v190 w23 ho24 hb hg_ hnew_; clear hg_ hnew_; (first | rw [← Ny189.out] at ho24 | (simp only [Int.reduceToNat] at ho24; rw [← Ny189.out] at ho24)); have HO191 := Aside0.mk (Kd.R_lower (Kd.R_new' ho24 (Kd.R_lt (mv_ HO_4.out))) (below_size bl_)); replace HB := Aside0.mk (below_step bl_ hb); replace HO_4 := Aside0.mk (Kd.R_elder' (mv_ HO_4.out) (Kd.R_base ho24) hb); replace HO_3 := Aside0.mk (Kd.R_below (mv_ HO_3.out) hb); clear hb ho24))
    go_loopg [8] k1 (fun kq v8 w' => ∃ (x7_2 : List Int) (x8_2 : Int), v8 = .int .i64 x8_2 ∧ Aside0 (palaverref02_Sum.l1 kq x3_1 x4_1 t188 x6_1 x7_2 x8_2 = some r) ∧ Aside0 (kq ≤ k1) ∧ Aside0 (Kd.R (Kd.int .u32) 105 w' w.heap.size (fun _ => True) (.slice (some ⟨go5, 0, none⟩) x3_1.length co5) x3_1) ∧ Aside0 (Kd.R (Kd.int .u32) 113 w' w.heap.size (fun k_ => some k_ ≠ (v190 : Value).ownBlock) (.slice (some ⟨go9, 0, none⟩) x4_1.length co9) x4_1) ∧ Aside0 (Kd.R (Kd.int .u32) 113 w' w.heap.size (fun k_ => some k_ ≠ ((.slice (some ⟨go9, 0, none⟩) x4_1.length co9) : Value).ownBlock) v190 x7_2) ∧ Aside0 (Below w.heap.size w w'))
    case atStart => exact ⟨(y189), (0), vq_, H', ⟨Nat.le_refl _⟩, ⟨by refine mv_ ?_; exact HO_3.out⟩, ⟨by refine mv_ ?_; exact Kd.R_mono HO_4.out (fun _ hk => hk.2)⟩, ⟨by refine mv_ ?_; exact Kd.R_mono HO191.out (fun _ hk => hk.2)⟩, ⟨bl_⟩⟩
    case round =>
     clear H'
     clear c22b0
     obtain ⟨x7_2, x8_2, rfl, HA, HK2, HO_3, HO_4, HO_7, HB⟩ := hrel
     cases gk with
     | zero => exact absurd HA.out (by simp [palaverref02_Sum.l1])
     | succ k2 =>
      have H := HA.out
      clear HA
      simp only [palaverref02_Sum.l1] at H
      by_cases c25 : x8_2 < 64
      ·refine Nonempty.elim ?gc25p id
       letI i_ : type_of% ?gc25p := ⟨by
       rw [if_pos c25] at H
       have c25b0 : decide (x8_2 < 64) = true := decide_eq_true c25
       clear c25
       by_cases c26 : x8_2 < 16
       ·refine Nonempty.elim ?gc26p id
        letI i_ : type_of% ?gc26p := ⟨by
        rw [if_pos c26] at H
        have c26b0 : decide (x8_2 < 16) = true := decide_eq_true c26
        clear c26
        generalize hji27 : (wrap64 (x6_1 + (wrap64 (4 * x8_2)))) = ji27 at H
        have hji27w := (i64_w _).trans hji27
        by_cases c28 : 0 ≤ (ji27)
        ·rw [if_pos c28] at H
         have c28b0 : decide (0 ≤ (ji27)) = true := decide_eq_true c28
         clear c28
         revert H; refine nd_ fun c29 c29b0 H => ?_
         clear c29
         generalize hji31 : (wrap64 ((ji27) + 1)) = ji31 at H
         have hji31w := (i64_w _).trans hji31
         revert H; refine nd_ fun c32 c32b0 => nd_ fun c33 c33b0 H => ?_
         clear c32 c33
         generalize hji35 : (wrap64 ((ji27) + 2)) = ji35 at H
         have hji35w := (i64_w _).trans hji35
         revert H; refine nd_ fun c36 c36b0 => nd_ fun c37 c37b0 H => ?_
         clear c36 c37
         generalize hji39 : (wrap64 ((ji27) + 3)) = ji39 at H
         have hji39w := (i64_w _).trans hji39
         revert H; refine nd_ fun c40 c40b0 => nd_ fun c41 c41b0 => ne_ fun c43 c43b0 c43b1 => nd_ fun c44 c44b0 => nd_ fun c45 c45b0 H => ?_
         clear c40 c41 c43 c44 c45
         generalize e_ : (x7_2.set (x8_2 : Int).toNat (((((((bt t188 (ji27)) % 4294967296) * 16777216) + (((bt t188 (ji31)) % 4294967296) * 65536)) + (((bt t188 (ji35)) % 4294967296) * 256)) + (bt t188 (ji39))) % 4294967296) : List Int) = y192 at H
         have Ny192 := Aside0.mk e_.symm
         clear e_
         have H' := Aside0.mk H
         clear H
         try go_wp2
         replace HB := Aside0.mk (below_drew1 HB.out)
         replace HO_7 := Aside0.mk (Kd.R_drew HO_7.out)
         replace HO_4 := Aside0.mk (Kd.R_drew HO_4.out)
         replace HO_3 := Aside0.mk (Kd.R_drew HO_3.out)
         have p30 := eq_true (ad_ : 0 ≤ ((ji27) : Int))
         have q30 := eq_true (ad_ : (ji27) < (t188.size : Int))
         have hx30 := bt_at t188 (ji27)
         have p34 := eq_true (ad_ : 0 ≤ ((ji31) : Int))
         have q34 := eq_true (ad_ : (ji31) < (t188.size : Int))
         have hx34 := bt_at t188 (ji31)
         have p38 := eq_true (ad_ : 0 ≤ ((ji35) : Int))
         have q38 := eq_true (ad_ : (ji35) < (t188.size : Int))
         have hx38 := bt_at t188 (ji35)
         have p42 := eq_true (ad_ : 0 ≤ ((ji39) : Int))
         have q42 := eq_true (ad_ : (ji39) < (t188.size : Int))
         have hx42 := bt_at t188 (ji39)
         have qa46 : ((x8_2 : Int) < (64 : Int)) = True := qa_ x7_2 64
         have p46 : 0 ≤ (x8_2 : Int) := ad_
         have q46 : (x8_2 : Int) < ((x7_2.length : Int) : Int) := ad_
         obtain ⟨go46, co46, eo46, gb46, gl46, cl46, HG46⟩ := Kd.R_form HO_7.out (by omega)
         (first | cases eo46 | (injection eo46 with ea_ en_ ec_; (first | subst ea_ | (injection ea_ with ea_; subst ea_)); subst ec_; clear en_))
         have GB46 := Aside0.mk gb46
         have GG46 := Aside0.mk HG46
         clear gb46 gl46 HG46
         obtain ⟨hx46_0, hf46_0⟩ := Kd.R_celln 0 HO_7.out (x8_2 : Int) p46 q46
         replace p46 := eq_true p46
         replace q46 := eq_true q46
         have HP48 := Kd.R_putn HO_7.out (x8_2 : Int) (((((((bt t188 (ji27)) % 4294967296) * 16777216) + (((bt t188 (ji31)) % 4294967296) * 65536)) + (((bt t188 (ji35)) % 4294967296) * 256)) + (bt t188 (ji39))) % 4294967296)
         rw [← Ny192.out] at HP48
         have HQ48 := Aside0.mk HP48
         clear HP48
         refine start_ (n := 40) (S := fun w' => True) (ds := [39]) #[false, false, false, false, false, false, false, false, false, false, false, false, false, false, false, false, false, false, false, false, false, false, false, false, false, false, false, false, false, false, false, false, false, false, false, false, false, false, false, false] (by kernel_rfl) rfl rfl trivial (fun hHeld => ?_); refine with_tabW palaverref02_Sum.tab12 palaverref02_Sum.bits12 (fun HT_ HW_ => ?_)
         generalize wr.drew = w47 at HO_3 HO_4 HO_7 HB GG46 HQ48 hf46_0 hx46_0 hHeld ⊢
         refine runs_ [(0, some 46), (1, some 47), (2, some 48), (3, some 49), (4, some 50), (5, some 51), (9, some 55), (10, some 56), (11, some 57), (12, some 58), (13, some 59), (14, some 60), (19, some 65), (20, some 66), (21, some 67), (22, some 68), (23, some 69), (24, some 70), (29, some 75), (30, some 76), (31, some 77), (32, some 78), (33, some 79), (34, some 80)] ?_
         iterate 24 (refine pL_ ?_)
         refine runsE_ ?_
         refine take_ (i := 6) (N := some 52) (v := ?_) (a' := ?_) #[true, true, true, true, true, true, true, false, false, true, true, true, true, true, true, false, false, false, false, true, true, true, true, true, true, false, false, false, false, true, true, true, true, true, true, false, false, false, false, false] rfl rfl (take_ofW HT_.out HW_.out (by kernel_rfl)) (fun _ _ _ h => h) (Or.inl ⟨by rfl, ?_⟩) hHeld ?_ ?_
         rotate_left
         ·intro w' _
          go_simp
          with_reducible rfl
         rotate_left
         ·simp only [pr_]
          rfl
         refine runs_ [(7, some 53), (8, some 54)] ?_
         iterate 2 (refine pL_ ?_)
         refine runsE_ ?_
         refine take_ (i := 15) (N := some 61) (v := ?_) (a' := ?_) #[true, true, true, true, true, true, true, true, true, true, true, true, true, true, true, true, false, false, false, true, true, true, true, true, true, false, false, false, false, true, true, true, true, true, true, false, false, false, false, false] rfl rfl (take_ofW HT_.out HW_.out (by kernel_rfl)) (fun _ _ _ h => h) (Or.inl ⟨by rfl, ?_⟩) hHeld ?_ ?_
         rotate_left
         ·intro w' _
          go_simp
          with_reducible rfl
         rotate_left
         ·simp only [pr_]
          rfl
         refine runs_ [(16, some 62), (17, some 63), (18, some 64)] ?_
         iterate 3 (refine pL_ ?_)
         refine runsE_ ?_
         refine take_ (i := 25) (N := some 71) (v := ?_) (a' := ?_) #[true, true, true, true, true, true, true, true, true, true, true, true, true, true, true, true, true, true, true, true, true, true, true, true, true, true, false, false, false, true, true, true, true, true, true, false, false, false, false, false] rfl rfl (take_ofW HT_.out HW_.out (by kernel_rfl)) (fun _ _ _ h => h) (Or.inl ⟨by rfl, ?_⟩) hHeld ?_ ?_
         rotate_left
         ·intro w' _
          go_simp
          with_reducible rfl
         rotate_left
         ·simp only [pr_]
          rfl
         refine runs_ [(26, some 72), (27, some 73), (28, some 74)] ?_
         iterate 3 (refine pL_ ?_)
         refine runsE_ ?_
         refine take_ (i := 35) (N := some 81) (v := ?_) (a' := ?_) #[true, true, true, true, true, true, true, true, true, true, true, true, true, true, true, true, true, true, true, true, true, true, true, true, true, true, true, true, true, true, true, true, true, true, true, true, false, false, false, false] rfl rfl (take_ofW HT_.out HW_.out (by kernel_rfl)) (fun _ _ _ h => h) (Or.inl ⟨by rfl, ?_⟩) hHeld ?_ ?_
         rotate_left
         ·intro w' _
          go_simp
          with_reducible rfl
         rotate_left
         ·simp only [pr_]
          rfl
         refine runs_ [(36, some 82), (37, some 83), (38, some 84)] ?_
         iterate 3 (refine pL_ ?_)
         refine runsE_ ?_
         refine last_ (i := 39) (N := none) #[true, true, true, true, true, true, true, true, true, true, true, true, true, true, true, true, true, true, true, true, true, true, true, true, true, true, true, true, true, true, true, true, true, true, true, true, true, true, true, true] rfl rfl (one_of HT_.out (by kernel_rfl)) (by decide) (fun K hK => ?_)
         refine skip_set ⟨go46, (x8_2 : Int).toNat, none⟩ (.int .u32 (((((((bt t188 (ji27)) % 4294967296) * 16777216) + (((bt t188 (ji31)) % 4294967296) * 65536)) + (((bt t188 (ji35)) % 4294967296) * 256)) + (bt t188 (ji39))) % 4294967296)) (by rfl) rfl ?_ ?_
         ·first | (go_simp; done) | (go_simp; rfl) | (go_simp; (simp only [IntKind.wrap_u32, IntKind.wrap_u8]); refine congrArg (fun v_ => World.setCell _ _ (Value.int _ v_)) ?_; omega)
         refine hK.out _ _ ?_
         clear hK K
         refine done_ (done_of HT_.out (by kernel_rfl)) ?_
         try go_wp2
         go_roundg k2
         case measure => have := HK1.out; have := HK2.out; omega
         case rel => exact ⟨(y192), (wrap64 (x8_2 + 1)), vq_, H', ⟨by have := HK1.out; have := HK2.out; omega⟩, ⟨by refine mv_ ?_; exact Kd.R_mono (Kd.R_far (p := ⟨go46, (x8_2 : Int).toNat, none⟩) (Kd.R_types HO_3.out GG46.out (by decide)) (fun _ hk => hk.2) (.int .u32 (((((((bt t188 (ji27)) % 4294967296) * 16777216) + (((bt t188 (ji31)) % 4294967296) * 65536)) + (((bt t188 (ji35)) % 4294967296) * 256)) + (bt t188 (ji39))) % 4294967296))) (fun _ hk => trivial)⟩, ⟨by refine mv_ ?_; exact Kd.R_mono (Kd.R_far (p := ⟨go46, (x8_2 : Int).toNat, none⟩) (Kd.R_mono HO_4.out (fun k_ hk => (⟨hk, fun e_ => hk (by rw [e_]; rfl)⟩ : _ ∧ k_ ≠ go46))) (fun _ hk => hk.2) (.int .u32 (((((((bt t188 (ji27)) % 4294967296) * 16777216) + (((bt t188 (ji31)) % 4294967296) * 65536)) + (((bt t188 (ji35)) % 4294967296) * 256)) + (bt t188 (ji39))) % 4294967296))) (fun _ hk => hk.1)⟩, ⟨by refine mv_ ?_; exact HQ48.out⟩, ⟨bs_ GB46.out⟩⟩
        ·rw [if_neg c28] at H
         exact absurd H (by simp)
        ⟩
        exact inferInstanceAs _
       ·refine Nonempty.elim ?gc26n id
        letI i_ : type_of% ?gc26n := ⟨by
        rw [if_neg c26] at H
        have c26b0 : decide (x8_2 < 16) = false := decide_eq_false c26
        clear c26
        by_cases c49 : x7_2.length = 64
        ·rw [if_pos c49] at H
         have c49b0 := eq_true c49
         have c49b1 : decide (x7_2.length = 64) = true := decide_eq_true c49
         clear c49
         generalize hji50 : (wrap64 (x8_2 - 15)) = ji50 at H
         have hji50w := (i64_w _).trans hji50
         revert H; refine nd_ fun c51 c51b0 => nd_ fun c52 c52b0 => oa_ fun t194 A53 => oa_ fun t196 A54 H => ?_
         clear c51 c52
         generalize hji55 : (wrap64 (x8_2 - 2)) = ji55 at H
         have hji55w := (i64_w _).trans hji55
         revert H; refine nd_ fun c56 c56b0 => nd_ fun c57 c57b0 => oa_ fun t199 A58 => oa_ fun t201 A59 H => ?_
         clear c56 c57
         generalize hji60 : (wrap64 (x8_2 - 16)) = ji60 at H
         have hji60w := (i64_w _).trans hji60
         revert H; refine nd_ fun c61 c61b0 => nd_ fun c62 c62b0 H => ?_
         clear c61 c62
         generalize hji63 : (wrap64 (x8_2 - 7)) = ji63 at H
         have hji63w := (i64_w _).trans hji63
         revert H; refine nd_ fun c64 c64b0 => nd_ fun c65 c65b0 => nd_ fun c66 c66b0 => nd_ fun c67 c67b0 H => ?_
         clear c64 c65 c66 c67
         generalize e_ : (x7_2.set (x8_2 : Int).toNat (((((rd x7_2 (ji60)) + (Go.bits .xor .u32 (Go.bits .xor .u32 t194 t196) ((rd x7_2 (ji50)) / 8))) + (rd x7_2 (ji63))) + (Go.bits .xor .u32 (Go.bits .xor .u32 t199 t201) ((rd x7_2 (ji55)) / 1024))) % 4294967296) : List Int) = y205 at H
         have Ny205 := Aside0.mk e_.symm
         clear e_
         have H' := Aside0.mk H
         clear H
         try go_wp2
         replace HB := Aside0.mk (below_drew1 HB.out)
         replace HO_7 := Aside0.mk (Kd.R_drew HO_7.out)
         replace HO_4 := Aside0.mk (Kd.R_drew HO_4.out)
         replace HO_3 := Aside0.mk (Kd.R_drew HO_3.out)
         obtain ⟨Ao70, co70, eo70⟩ := Kd.R_slice HO_7.out
         (first | subst eo70 | (injection eo70 with f1_ f2_ f3_; have f4_ := f1_.symm; have f5_ := f3_.symm; clear f1_ f2_ f3_; subst f4_; subst f5_))
         have qa193 : (((ji50) : Int) < (64 : Int)) = True := qa_ x7_2 64
         have p193 : 0 ≤ ((ji50) : Int) := ad_
         have q193 : (ji50) < (x7_2.length : Int) := ad_
         obtain ⟨ad193, e193, hx193_0⟩ := Kd.at_int (Kd.R_reads' HO_7.out).2.2 (ji50) p193 q193
         cases e193
         replace p193 := eq_true p193
         replace q193 := eq_true q193
         have qa195 : (((ji50) : Int) < (64 : Int)) = True := qa_ x7_2 64
         have p195 : 0 ≤ ((ji50) : Int) := ad_
         have q195 : (ji50) < (x7_2.length : Int) := ad_
         obtain ⟨ad195, e195, hx195_0⟩ := Kd.at_int (Kd.R_reads' HO_7.out).2.2 (ji50) p195 q195
         obtain rfl : ad193 = ad195 := (by injection e195)
         replace p195 := eq_true p195
         replace q195 := eq_true q195
         have qa197 : (((ji50) : Int) < (64 : Int)) = True := qa_ x7_2 64
         have p197 : 0 ≤ ((ji50) : Int) := ad_
         have q197 : (ji50) < (x7_2.length : Int) := ad_
         obtain ⟨ad197, e197, hx197_0⟩ := Kd.at_int (Kd.R_reads' HO_7.out).2.2 (ji50) p197 q197
         obtain rfl : ad193 = ad197 := (by injection e197)
         replace p197 := eq_true p197
         replace q197 := eq_true q197
         refine start_ (n := 18) (S := fun w' => w'.cell? (ad193.add ((ji50)).toNat) = some (.int .u32 (rd x7_2 (ji50))) ∧ w'.cell? (ad193.add ((ji50)).toNat) = some (.int .u32 (rd x7_2 (ji50))) ∧ w'.cell? (ad193.add ((ji50)).toNat) = some (.int .u32 (rd x7_2 (ji50)))) (ds := []) #[false, false, false, false, false, false, false, false, false, false, false, false, false, false, false, false, false, false] (by kernel_rfl) rfl rfl ⟨hx193_0, hx195_0, hx197_0⟩ (fun hHeld => ?_); refine with_tabW palaverref02_Sum.tab13 palaverref02_Sum.bits13 (fun HT_ HW_ => ?_)
         generalize wr.drew = w69 at HO_3 HO_4 HO_7 HB hx193_0 hx195_0 hx197_0 hHeld ⊢
         refine runs_ [(0, some 85), (1, some 86), (2, some 87), (5, some 90), (6, some 91), (7, some 92), (11, some 96), (12, some 97), (13, some 98)] ?_
         iterate 9 (refine pL_ ?_)
         refine runsE_ ?_
         refine runs_ [(3, some 88), (8, some 93), (14, some 99)] ?_
         iterate 3 (refine takeL_ (v := ?_) (a' := ?_) rfl rfl (take_ofW HT_.out HW_.out (by kernel_rfl)) (Or.inl ⟨by rfl, ?_⟩) hHeld ?_ ?_ (fun _ _ _ h => h); rotate_left; (rintro w' ⟨s0, s1, s2⟩; go_simp; with_reducible rfl); rotate_left; (simp only [pr_]; rfl))
         refine runsE_ ?_
         refine pure_ (i := 15) (N := some 100) (v := ?_) (a' := ?_) #[true, true, true, true, false, true, true, true, true, false, false, true, true, true, true, true, false, false] rfl rfl (any_of HT_.out (by kernel_rfl)) (fun _ _ _ h => h) (Or.inl ⟨by rfl, ?_⟩) ?_ ?_
         rotate_left
         ·intro w'
          go_simp
          with_reducible rfl
         rotate_left
         ·simp only [pr_]
          rfl
         refine one_ (i := 4) (N := some 89) #[true, true, true, true, true, true, true, true, true, false, false, true, true, true, true, true, false, false] rfl rfl (one_of HT_.out (by kernel_rfl)) (by decide) (fun K hK => ?_)
         refine goes_ Tryd.func79 (by kernel_rfl) rfl #[.int .u32 (rd x7_2 (ji50)), .int .u32 7] (by rfl) rfl rfl (by (simp only [List.map_toArray, List.map_cons, List.map_nil]); first | done | (simp only [hji50]; rfl) | rfl | (simp only [List.length_drop, List.length_take]; rfl)) ?_
         with_reducible refine (palaverref02_turn.calls (rd x7_2 (ji50)) 7 t194 _ A53.out).mono ?_
         rintro e w' ⟨rfl, ⟨nd, rfl⟩⟩
         refine ⟨_, rfl, ?_⟩
         refine hK.out _ _ ⟨hHeld.1, hHeld.2.1, hHeld.2.2⟩ (fun hHeld => ?_)
         clear hK K
         refine norm_ (a' := ?_) ?_ ?_
         rotate_left
         ·show Act.put _ (some 89) _ = _
          simp only [pr_]
          rfl
         refine one_ (i := 9) (N := some 94) #[true, true, true, true, true, true, true, true, true, true, false, true, true, true, true, true, false, false] rfl rfl (one_of HT_.out (by kernel_rfl)) (by decide) (fun K hK => ?_)
         refine goes_ Tryd.func79 (by kernel_rfl) rfl #[.int .u32 (rd x7_2 (ji50)), .int .u32 18] (by rfl) rfl rfl (by (simp only [List.map_toArray, List.map_cons, List.map_nil]); first | done | (simp only [hji50]; rfl) | rfl | (simp only [List.length_drop, List.length_take]; rfl)) ?_
         with_reducible refine (palaverref02_turn.calls (rd x7_2 (ji50)) 18 t196 _ A54.out).mono ?_
         rintro e w' ⟨rfl, ⟨nd, rfl⟩⟩
         refine ⟨_, rfl, ?_⟩
         refine hK.out _ _ ⟨hHeld.1, hHeld.2.1, hHeld.2.2⟩ (fun hHeld => ?_)
         clear hK K
         refine norm_ (a' := ?_) ?_ ?_
         rotate_left
         ·show Act.put _ (some 94) _ = _
          simp only [pr_]
          rfl
         refine runs_ [(10, some 95), (16, some 101), (17, some 9)] ?_
         iterate 3 (refine pL_ ?_)
         refine runsE_ ?_
         refine done_ (done_of HT_.out (by kernel_rfl)) ?_
         try go_wp2
         (rw [drewN_self w69]; generalize hq_ : World.drewN w69 _ = w69; have n0_ : Aside0 (Kd.R (Kd.int .u32) 105 w69 w.heap.size (fun _ => True) (.slice (some ⟨go5, 0, none⟩) x3_1.length co5) x3_1) := ⟨by rw [← hq_]; exact (mv_ HO_3.out)⟩; have n1_ : Aside0 (Kd.R (Kd.int .u32) 113 w69 w.heap.size (fun k_ => some k_ ≠ (.slice (some ad193) x7_2.length co70 : Value).ownBlock) (.slice (some ⟨go9, 0, none⟩) x4_1.length co9) x4_1) := ⟨by rw [← hq_]; exact (mv_ HO_4.out)⟩; have n2_ : Aside0 (Kd.R (Kd.int .u32) 113 w69 w.heap.size (fun k_ => some k_ ≠ (.slice (some ⟨go9, 0, none⟩) x4_1.length co9 : Value).ownBlock) (.slice (some ad193) x7_2.length co70) x7_2) := ⟨by rw [← hq_]; exact (mv_ HO_7.out)⟩; have n3_ : Aside0 (Below w.heap.size w w69) := ⟨by rw [← hq_]; exact bl_⟩; clear HO_3 HO_4 HO_7 HB hq_; have HO_3 := n0_; have HO_4 := n1_; have HO_7 := n2_; have HB := n3_; clear n0_ n1_ n2_ n3_)
         replace HB := Aside0.mk (below_drew1 HB.out)
         replace HO_7 := Aside0.mk (Kd.R_drew HO_7.out)
         replace HO_4 := Aside0.mk (Kd.R_drew HO_4.out)
         replace HO_3 := Aside0.mk (Kd.R_drew HO_3.out)
         have qa198 : (((ji55) : Int) < (64 : Int)) = True := qa_ x7_2 64
         have p198 : 0 ≤ ((ji55) : Int) := ad_
         have q198 : (ji55) < (x7_2.length : Int) := ad_
         obtain ⟨ad198, e198, hx198_0⟩ := Kd.at_int (Kd.R_reads' HO_7.out).2.2 (ji55) p198 q198
         obtain rfl : ad193 = ad198 := (by injection e198)
         replace p198 := eq_true p198
         replace q198 := eq_true q198
         have qa200 : (((ji55) : Int) < (64 : Int)) = True := qa_ x7_2 64
         have p200 : 0 ≤ ((ji55) : Int) := ad_
         have q200 : (ji55) < (x7_2.length : Int) := ad_
         obtain ⟨ad200, e200, hx200_0⟩ := Kd.at_int (Kd.R_reads' HO_7.out).2.2 (ji55) p200 q200
         obtain rfl : ad193 = ad200 := (by injection e200)
         replace p200 := eq_true p200
         replace q200 := eq_true q200
         have qa202 : (((ji55) : Int) < (64 : Int)) = True := qa_ x7_2 64
         have p202 : 0 ≤ ((ji55) : Int) := ad_
         have q202 : (ji55) < (x7_2.length : Int) := ad_
         obtain ⟨ad202, e202, hx202_0⟩ := Kd.at_int (Kd.R_reads' HO_7.out).2.2 (ji55) p202 q202
         obtain rfl : ad193 = ad202 := (by injection e202)
         replace p202 := eq_true p202
         replace q202 := eq_true q202
         refine start_ (n := 18) (S := fun w' => w'.cell? (ad193.add ((ji55)).toNat) = some (.int .u32 (rd x7_2 (ji55))) ∧ w'.cell? (ad193.add ((ji55)).toNat) = some (.int .u32 (rd x7_2 (ji55))) ∧ w'.cell? (ad193.add ((ji55)).toNat) = some (.int .u32 (rd x7_2 (ji55)))) (ds := []) #[false, false, false, false, false, false, false, false, false, false, false, false, false, false, false, false, false, false] (by kernel_rfl) rfl rfl ⟨hx198_0, hx200_0, hx202_0⟩ (fun hHeld => ?_); refine with_tabW palaverref02_Sum.tab14 palaverref02_Sum.bits14 (fun HT_ HW_ => ?_)
         generalize w69.drew = w71 at HO_3 HO_4 HO_7 HB hx198_0 hx200_0 hx202_0 hHeld ⊢
         refine runs_ [(0, some 102), (1, some 103), (2, some 104), (5, some 107), (6, some 108), (7, some 109), (11, some 113), (12, some 114), (13, some 115)] ?_
         iterate 9 (refine pL_ ?_)
         refine runsE_ ?_
         refine runs_ [(3, some 105), (8, some 110), (14, some 116)] ?_
         iterate 3 (refine takeL_ (v := ?_) (a' := ?_) rfl rfl (take_ofW HT_.out HW_.out (by kernel_rfl)) (Or.inl ⟨by rfl, ?_⟩) hHeld ?_ ?_ (fun _ _ _ h => h); rotate_left; (rintro w' ⟨s0, s1, s2⟩; go_simp; with_reducible rfl); rotate_left; (simp only [pr_]; rfl))
         refine runsE_ ?_
         refine pure_ (i := 15) (N := some 117) (v := ?_) (a' := ?_) #[true, true, true, true, false, true, true, true, true, false, false, true, true, true, true, true, false, false] rfl rfl (any_of HT_.out (by kernel_rfl)) (fun _ _ _ h => h) (Or.inl ⟨by rfl, ?_⟩) ?_ ?_
         rotate_left
         ·intro w'
          go_simp
          with_reducible rfl
         rotate_left
         ·simp only [pr_]
          rfl
         refine one_ (i := 4) (N := some 106) #[true, true, true, true, true, true, true, true, true, false, false, true, true, true, true, true, false, false] rfl rfl (one_of HT_.out (by kernel_rfl)) (by decide) (fun K hK => ?_)
         refine goes_ Tryd.func79 (by kernel_rfl) rfl #[.int .u32 (rd x7_2 (ji55)), .int .u32 17] (by rfl) rfl rfl (by (simp only [List.map_toArray, List.map_cons, List.map_nil]); first | done | (simp only [hji55]; rfl) | rfl | (simp only [List.length_drop, List.length_take]; rfl)) ?_
         with_reducible refine (palaverref02_turn.calls (rd x7_2 (ji55)) 17 t199 _ A58.out).mono ?_
         rintro e w' ⟨rfl, ⟨nd, rfl⟩⟩
         refine ⟨_, rfl, ?_⟩
         refine hK.out _ _ ⟨hHeld.1, hHeld.2.1, hHeld.2.2⟩ (fun hHeld => ?_)
         clear hK K
         refine norm_ (a' := ?_) ?_ ?_
         rotate_left
         ·show Act.put _ (some 106) _ = _
          simp only [pr_]
          rfl
         refine one_ (i := 9) (N := some 111) #[true, true, true, true, true, true, true, true, true, true, false, true, true, true, true, true, false, false] rfl rfl (one_of HT_.out (by kernel_rfl)) (by decide) (fun K hK => ?_)
         refine goes_ Tryd.func79 (by kernel_rfl) rfl #[.int .u32 (rd x7_2 (ji55)), .int .u32 19] (by rfl) rfl rfl (by (simp only [List.map_toArray, List.map_cons, List.map_nil]); first | done | (simp only [hji55]; rfl) | rfl | (simp only [List.length_drop, List.length_take]; rfl)) ?_
         with_reducible refine (palaverref02_turn.calls (rd x7_2 (ji55)) 19 t201 _ A59.out).mono ?_
         rintro e w' ⟨rfl, ⟨nd, rfl⟩⟩
         refine ⟨_, rfl, ?_⟩
         refine hK.out _ _ ⟨hHeld.1, hHeld.2.1, hHeld.2.2⟩ (fun hHeld => ?_)
         clear hK K
         refine norm_ (a' := ?_) ?_ ?_
         rotate_left
         ·show Act.put _ (some 111) _ = _
          simp only [pr_]
          rfl
         refine runs_ [(10, some 112), (16, some 118), (17, some 10)] ?_
         iterate 3 (refine pL_ ?_)
         refine runsE_ ?_
         refine done_ (done_of HT_.out (by kernel_rfl)) ?_
         try go_wp2
         (rw [drewN_self w71]; generalize hq_ : World.drewN w71 _ = w71; have n0_ : Aside0 (Kd.R (Kd.int .u32) 105 w71 w.heap.size (fun _ => True) (.slice (some ⟨go5, 0, none⟩) x3_1.length co5) x3_1) := ⟨by rw [← hq_]; exact (mv_ HO_3.out)⟩; have n1_ : Aside0 (Kd.R (Kd.int .u32) 113 w71 w.heap.size (fun k_ => some k_ ≠ (.slice (some ad193) x7_2.length co70 : Value).ownBlock) (.slice (some ⟨go9, 0, none⟩) x4_1.length co9) x4_1) := ⟨by rw [← hq_]; exact (mv_ HO_4.out)⟩; have n2_ : Aside0 (Kd.R (Kd.int .u32) 113 w71 w.heap.size (fun k_ => some k_ ≠ (.slice (some ⟨go9, 0, none⟩) x4_1.length co9 : Value).ownBlock) (.slice (some ad193) x7_2.length co70) x7_2) := ⟨by rw [← hq_]; exact (mv_ HO_7.out)⟩; have n3_ : Aside0 (Below w.heap.size w w71) := ⟨by rw [← hq_]; exact bl_⟩; clear HO_3 HO_4 HO_7 HB hq_; have HO_3 := n0_; have HO_4 := n1_; have HO_7 := n2_; have HB := n3_; clear n0_ n1_ n2_ n3_)
         replace HB := Aside0.mk (below_drew1 HB.out)
         replace HO_7 := Aside0.mk (Kd.R_drew HO_7.out)
         replace HO_4 := Aside0.mk (Kd.R_drew HO_4.out)
         replace HO_3 := Aside0.mk (Kd.R_drew HO_3.out)
         have qa203 : (((ji60) : Int) < (64 : Int)) = True := qa_ x7_2 64
         have p203 : 0 ≤ ((ji60) : Int) := ad_
         have q203 : (ji60) < (x7_2.length : Int) := ad_
         obtain ⟨ad203, e203, hx203_0⟩ := Kd.at_int (Kd.R_reads' HO_7.out).2.2 (ji60) p203 q203
         obtain rfl : ad193 = ad203 := (by injection e203)
         replace p203 := eq_true p203
         replace q203 := eq_true q203
         have qa204 : (((ji63) : Int) < (64 : Int)) = True := qa_ x7_2 64
         have p204 : 0 ≤ ((ji63) : Int) := ad_
         have q204 : (ji63) < (x7_2.length : Int) := ad_
         obtain ⟨ad204, e204, hx204_0⟩ := Kd.at_int (Kd.R_reads' HO_7.out).2.2 (ji63) p204 q204
         obtain rfl : ad193 = ad204 := (by injection e204)
         replace p204 := eq_true p204
         replace q204 := eq_true q204
         have qa68 : ((x8_2 : Int) < (64 : Int)) = True := qa_ x7_2 64
         have p68 : 0 ≤ (x8_2 : Int) := ad_
         have q68 : (x8_2 : Int) < ((x7_2.length : Int) : Int) := ad_
         obtain ⟨go68, co68, eo68, gb68, gl68, cl68, HG68⟩ := Kd.R_form HO_7.out (by omega)
         (first | cases eo68 | (injection eo68 with ea_ en_ ec_; (first | subst ea_ | (injection ea_ with ea_; subst ea_)); subst ec_; clear en_))
         have GB68 := Aside0.mk gb68
         have GG68 := Aside0.mk HG68
         clear gb68 gl68 HG68
         (first | simp only [add_plain] at hx193_0 | skip)
         (first | simp only [add_plain] at hx195_0 | skip)
         (first | simp only [add_plain] at hx197_0 | skip)
         (first | simp only [add_plain] at hx198_0 | skip)
         (first | simp only [add_plain] at hx200_0 | skip)
         (first | simp only [add_plain] at hx202_0 | skip)
         (first | simp only [add_plain] at hx203_0 | skip)
         (first | simp only [add_plain] at hx204_0 | skip)
         obtain ⟨hx68_0, hf68_0⟩ := Kd.R_celln 0 HO_7.out (x8_2 : Int) p68 q68
         replace p68 := eq_true p68
         replace q68 := eq_true q68
         have HP73 := Kd.R_putn HO_7.out (x8_2 : Int) (((((rd x7_2 (ji60)) + (Go.bits .xor .u32 (Go.bits .xor .u32 t194 t196) ((rd x7_2 (ji50)) / 8))) + (rd x7_2 (ji63))) + (Go.bits .xor .u32 (Go.bits .xor .u32 t199 t201) ((rd x7_2 (ji55)) / 1024))) % 4294967296)
         rw [← Ny205.out] at HP73
         have HQ73 := Aside0.mk HP73
         clear HP73
         refine start_ (n := 16) (S := fun w' => w'.cell? ⟨go68, ((ji60)).toNat, none⟩ = some (.int .u32 (rd x7_2 (ji60))) ∧ w'.cell? ⟨go68, ((ji63)).toNat, none⟩ = some (.int .u32 (rd x7_2 (ji63)))) (ds := [15]) #[false, false, false, false, false, false, false, false, false, false, false, false, false, false, false, false] (by kernel_rfl) rfl rfl ⟨hx203_0, hx204_0⟩ (fun hHeld => ?_); refine with_tabW palaverref02_Sum.tab15 palaverref02_Sum.bits15 (fun HT_ HW_ => ?_)
         generalize w71.drew = w72 at HO_3 HO_4 HO_7 HB GG68 HQ73 hf68_0 hx193_0 hx195_0 hx197_0 hx198_0 hx200_0 hx202_0 hx203_0 hx204_0 hx68_0 hHeld ⊢
         refine runs_ [(0, some 119), (1, some 120), (2, some 121), (3, some 122), (5, some 124), (7, some 126), (8, some 127), (9, some 128), (12, some 131)] ?_
         iterate 9 (refine pL_ ?_)
         refine runsE_ ?_
         refine take_ (i := 4) (N := some 123) (v := ?_) (a' := ?_) #[true, true, true, true, true, true, false, true, true, true, false, false, true, false, false, false] rfl rfl (take_ofW HT_.out HW_.out (by kernel_rfl)) (fun _ _ _ h => h) (Or.inl ⟨by rfl, ?_⟩) hHeld ?_ ?_
         rotate_left
         ·rintro w' ⟨s0, s1⟩
          go_simp
          with_reducible rfl
         rotate_left
         ·simp only [pr_]
          rfl
         refine pure_ (i := 6) (N := some 125) (v := ?_) (a' := ?_) #[true, true, true, true, true, true, true, true, true, true, false, false, true, false, false, false] rfl rfl (any_of HT_.out (by kernel_rfl)) (fun _ _ _ h => h) (Or.inl ⟨by rfl, ?_⟩) ?_ ?_
         rotate_left
         ·intro w'
          go_simp
          with_reducible rfl
         rotate_left
         ·simp only [pr_]
          rfl
         refine take_ (i := 10) (N := some 129) (v := ?_) (a' := ?_) #[true, true, true, true, true, true, true, true, true, true, true, false, true, false, false, false] rfl rfl (take_ofW HT_.out HW_.out (by kernel_rfl)) (fun _ _ _ h => h) (Or.inl ⟨by rfl, ?_⟩) hHeld ?_ ?_
         rotate_left
         ·rintro w' ⟨s0, s1⟩
          go_simp
          with_reducible rfl
         rotate_left
         ·simp only [pr_]
          rfl
         refine runs_ [(11, some 130), (13, some 132), (14, some 133)] ?_
         iterate 3 (refine pL_ ?_)
         refine runsE_ ?_
         refine last_ (i := 15) (N := none) #[true, true, true, true, true, true, true, true, true, true, true, true, true, true, true, true] rfl rfl (one_of HT_.out (by kernel_rfl)) (by decide) (fun K hK => ?_)
         refine skip_set ⟨go68, (x8_2 : Int).toNat, none⟩ (.int .u32 (((((rd x7_2 (ji60)) + (Go.bits .xor .u32 (Go.bits .xor .u32 t194 t196) ((rd x7_2 (ji50)) / 8))) + (rd x7_2 (ji63))) + (Go.bits .xor .u32 (Go.bits .xor .u32 t199 t201) ((rd x7_2 (ji55)) / 1024))) % 4294967296)) (by rfl) rfl ?_ ?_
         ·first | (go_simp; done) | (go_simp; rfl) | (go_simp; (simp only [IntKind.wrap_u32, IntKind.wrap_u8]); refine congrArg (fun v_ => World.setCell _ _ (Value.int _ v_)) ?_; omega)
         refine hK.out _ _ ?_
         clear hK K
         refine done_ (done_of HT_.out (by kernel_rfl)) ?_
         try go_wp2
         go_roundg k2
         case measure => have := HK1.out; have := HK2.out; omega
         case rel => exact ⟨(y205), (wrap64 (x8_2 + 1)), vq_, H', ⟨by have := HK1.out; have := HK2.out; omega⟩, ⟨by refine mv_ ?_; exact Kd.R_mono (Kd.R_far (p := ⟨go68, (x8_2 : Int).toNat, none⟩) (Kd.R_types HO_3.out GG68.out (by decide)) (fun _ hk => hk.2) (.int .u32 (((((rd x7_2 (ji60)) + (Go.bits .xor .u32 (Go.bits .xor .u32 t194 t196) ((rd x7_2 (ji50)) / 8))) + (rd x7_2 (ji63))) + (Go.bits .xor .u32 (Go.bits .xor .u32 t199 t201) ((rd x7_2 (ji55)) / 1024))) % 4294967296))) (fun _ hk => trivial)⟩, ⟨by refine mv_ ?_; exact Kd.R_mono (Kd.R_far (p := ⟨go68, (x8_2 : Int).toNat, none⟩) (Kd.R_mono HO_4.out (fun k_ hk => (⟨hk, fun e_ => hk (by rw [e_]; rfl)⟩ : _ ∧ k_ ≠ go68))) (fun _ hk => hk.2) (.int .u32 (((((rd x7_2 (ji60)) + (Go.bits .xor .u32 (Go.bits .xor .u32 t194 t196) ((rd x7_2 (ji50)) / 8))) + (rd x7_2 (ji63))) + (Go.bits .xor .u32 (Go.bits .xor .u32 t199 t201) ((rd x7_2 (ji55)) / 1024))) % 4294967296))) (fun _ hk => hk.1)⟩, ⟨by refine mv_ ?_; exact HQ73.out⟩, ⟨bs_ GB68.out⟩⟩
        ·rw [if_neg c49] at H
         exact absurd H (by simp)
        ⟩
        exact inferInstanceAs _
       ⟩
       exact inferInstanceAs _
      refine Nonempty.elim ?gc25n id
      letI i_ : type_of% ?gc25n := ⟨by
      rw [if_neg c25] at H
      have c25b0 : decide (x8_2 < 64) = false := decide_eq_false c25
      clear c25
      by_cases c74 : x3_1.length = 8
      ·rw [if_pos c74] at H
       have c74b0 := eq_true c74
       have c74b1 : decide (x3_1.length = 8) = true := decide_eq_true c74
       clear c74
       revert H; refine nd_ fun c75 c75b0 => nd_ fun c76 c76b0 => nd_ fun c77 c77b0 => nd_ fun c78 c78b0 => nd_ fun c79 c79b0 => nd_ fun c80 c80b0 => nd_ fun c81 c81b0 => nd_ fun c82 c82b0 H => ?_
       have c75b1 : decide (0 < x3_1.length) = true := decide_eq_true (by omega)
       have c76b1 : decide (1 < x3_1.length) = true := decide_eq_true (by omega)
       have c77b1 : decide (2 < x3_1.length) = true := decide_eq_true (by omega)
       have c78b1 : decide (3 < x3_1.length) = true := decide_eq_true (by omega)
       have c79b1 : decide (4 < x3_1.length) = true := decide_eq_true (by omega)
       have c80b1 : decide (5 < x3_1.length) = true := decide_eq_true (by omega)
       have c81b1 : decide (6 < x3_1.length) = true := decide_eq_true (by omega)
       have c82b1 : decide (7 < x3_1.length) = true := decide_eq_true (by omega)
       clear c75 c76 c77 c78 c79 c80 c81 c82
       have H' := Aside0.mk H
       clear H
       try go_wp2
       replace HB := Aside0.mk (below_drew1 HB.out)
       replace HO_7 := Aside0.mk (Kd.R_drew HO_7.out)
       replace HO_4 := Aside0.mk (Kd.R_drew HO_4.out)
       replace HO_3 := Aside0.mk (Kd.R_drew HO_3.out)
       have qa206 : ((0 : Int) < (8 : Int)) = True := qa_ x3_1 8
       have p206 : 0 ≤ (0 : Int) := (by omega)
       have q206 : 0 < (x3_1.length : Int) := ad_
       obtain ⟨ad206, e206, hx206_0⟩ := Kd.at_int (Kd.R_reads' HO_3.out).2.2 0 p206 q206
       obtain rfl : (⟨go5, 0, none⟩ : Addr) = ad206 := (by injection e206)
       (first | simp only [add_plain] at hx206_0 | simp only [add_at] at hx206_0 | simp only [Addr.add, Nat.zero_add] at hx206_0 | skip)
       have qi206 : (0 < x3_1.length) = True := eq_true (by omega)
       rw [show ((0 : Int)).toNat = 0 from rfl] at hx206_0
       replace p206 := eq_true p206
       replace q206 := eq_true q206
       have qa207 : ((1 : Int) < (8 : Int)) = True := qa_ x3_1 8
       have p207 : 0 ≤ (1 : Int) := (by omega)
       have q207 : 1 < (x3_1.length : Int) := ad_
       obtain ⟨ad207, e207, hx207_0⟩ := Kd.at_int (Kd.R_reads' HO_3.out).2.2 1 p207 q207
       obtain rfl : (⟨go5, 0, none⟩ : Addr) = ad207 := (by injection e207)
       (first | simp only [add_plain] at hx207_0 | simp only [add_at] at hx207_0 | simp only [Addr.add, Nat.zero_add] at hx207_0 | skip)
       have qi207 : (1 < x3_1.length) = True := eq_true (by omega)
       rw [show ((1 : Int)).toNat = 1 from rfl] at hx207_0
       replace p207 := eq_true p207
       replace q207 := eq_true q207
       have qa208 : ((2 : Int) < (8 : Int)) = True := qa_ x3_1 8
       have p208 : 0 ≤ (2 : Int) := (by omega)
       have q208 : 2 < (x3_1.length : Int) := ad_
       obtain ⟨ad208, e208, hx208_0⟩ := Kd.at_int (Kd.R_reads' HO_3.out).2.2 2 p208 q208
       obtain rfl : (⟨go5, 0, none⟩ : Addr) = ad208 := (by injection e208)
       (first | simp only [add_plain] at hx208_0 | simp only [add_at] at hx208_0 | simp only [Addr.add, Nat.zero_add] at hx208_0 | skip)
       have qi208 : (2 < x3_1.length) = True := eq_true (by omega)
       rw [show ((2 : Int)).toNat = 2 from rfl] at hx208_0
       replace p208 := eq_true p208
       replace q208 := eq_true q208
       have qa209 : ((3 : Int) < (8 : Int)) = True := qa_ x3_1 8
       have p209 : 0 ≤ (3 : Int) := (by omega)
       have q209 : 3 < (x3_1.length : Int) := ad_
       obtain ⟨ad209, e209, hx209_0⟩ := Kd.at_int (Kd.R_reads' HO_3.out).2.2 3 p209 q209
       obtain rfl : (⟨go5, 0, none⟩ : Addr) = ad209 := (by injection e209)
       (first | simp only [add_plain] at hx209_0 | simp only [add_at] at hx209_0 | simp only [Addr.add, Nat.zero_add] at hx209_0 | skip)
       have qi209 : (3 < x3_1.length) = True := eq_true (by omega)
       rw [show ((3 : Int)).toNat = 3 from rfl] at hx209_0
       replace p209 := eq_true p209
       replace q209 := eq_true q209
       have qa210 : ((4 : Int) < (8 : Int)) = True := qa_ x3_1 8
       have p210 : 0 ≤ (4 : Int) := (by omega)
       have q210 : 4 < (x3_1.length : Int) := ad_
       obtain ⟨ad210, e210, hx210_0⟩ := Kd.at_int (Kd.R_reads' HO_3.out).2.2 4 p210 q210
       obtain rfl : (⟨go5, 0, none⟩ : Addr) = ad210 := (by injection e210)
       (first | simp only [add_plain] at hx210_0 | simp only [add_at] at hx210_0 | simp only [Addr.add, Nat.zero_add] at hx210_0 | skip)
       have qi210 : (4 < x3_1.length) = True := eq_true (by omega)
       rw [show ((4 : Int)).toNat = 4 from rfl] at hx210_0
       replace p210 := eq_true p210
       replace q210 := eq_true q210
       have qa211 : ((5 : Int) < (8 : Int)) = True := qa_ x3_1 8
       have p211 : 0 ≤ (5 : Int) := (by omega)
       have q211 : 5 < (x3_1.length : Int) := ad_
       obtain ⟨ad211, e211, hx211_0⟩ := Kd.at_int (Kd.R_reads' HO_3.out).2.2 5 p211 q211
       obtain rfl : (⟨go5, 0, none⟩ : Addr) = ad211 := (by injection e211)
       (first | simp only [add_plain] at hx211_0 | simp only [add_at] at hx211_0 | simp only [Addr.add, Nat.zero_add] at hx211_0 | skip)
       have qi211 : (5 < x3_1.length) = True := eq_true (by omega)
       rw [show ((5 : Int)).toNat = 5 from rfl] at hx211_0
       replace p211 := eq_true p211
       replace q211 := eq_true q211
       have qa212 : ((6 : Int) < (8 : Int)) = True := qa_ x3_1 8
       have p212 : 0 ≤ (6 : Int) := (by omega)
       have q212 : 6 < (x3_1.length : Int) := ad_
       obtain ⟨ad212, e212, hx212_0⟩ := Kd.at_int (Kd.R_reads' HO_3.out).2.2 6 p212 q212
       obtain rfl : (⟨go5, 0, none⟩ : Addr) = ad212 := (by injection e212)
       (first | simp only [add_plain] at hx212_0 | simp only [add_at] at hx212_0 | simp only [Addr.add, Nat.zero_add] at hx212_0 | skip)
       have qi212 : (6 < x3_1.length) = True := eq_true (by omega)
       rw [show ((6 : Int)).toNat = 6 from rfl] at hx212_0
       replace p212 := eq_true p212
       replace q212 := eq_true q212
       have qa213 : ((7 : Int) < (8 : Int)) = True := qa_ x3_1 8
       have p213 : 0 ≤ (7 : Int) := (by omega)
       have q213 : 7 < (x3_1.length : Int) := ad_
       obtain ⟨ad213, e213, hx213_0⟩ := Kd.at_int (Kd.R_reads' HO_3.out).2.2 7 p213 q213
       obtain rfl : (⟨go5, 0, none⟩ : Addr) = ad213 := (by injection e213)
       (first | simp only [add_plain] at hx213_0 | simp only [add_at] at hx213_0 | simp only [Addr.add, Nat.zero_add] at hx213_0 | skip)
       have qi213 : (7 < x3_1.length) = True := eq_true (by omega)
       rw [show ((7 : Int)).toNat = 7 from rfl] at hx213_0
       replace p213 := eq_true p213
       replace q213 := eq_true q213
       refine start_ (n := 24) (S := fun w' => w'.cell? ⟨go5, 0, none⟩ = some (.int .u32 (rd x3_1 0)) ∧ w'.cell? ⟨go5, 1, none⟩ = some (.int .u32 (rd x3_1 1)) ∧ w'.cell? ⟨go5, 2, none⟩ = some (.int .u32 (rd x3_1 2)) ∧ w'.cell? ⟨go5, 3, none⟩ = some (.int .u32 (rd x3_1 3)) ∧ w'.cell? ⟨go5, 4, none⟩ = some (.int .u32 (rd x3_1 4)) ∧ w'.cell? ⟨go5, 5, none⟩ = some (.int .u32 (rd x3_1 5)) ∧ w'.cell? ⟨go5, 6, none⟩ = some (.int .u32 (rd x3_1 6)) ∧ w'.cell? ⟨go5, 7, none⟩ = some (.int .u32 (rd x3_1 7))) (ds := []) #[false, false, false, false, false, false, false, false, false, false, false, false, false, false, false, false, false, false, false, false, false, false, false, false] (by kernel_rfl) rfl rfl ⟨hx206_0, hx207_0, hx208_0, hx209_0, hx210_0, hx211_0, hx212_0, hx213_0⟩ (fun hHeld => ?_); refine with_tabW palaverref02_Sum.tab16 palaverref02_Sum.bits16 (fun HT_ HW_ => ?_)
       generalize wr.drew = w83 at HO_3 HO_4 HO_7 HB hx206_0 hx207_0 hx208_0 hx209_0 hx210_0 hx211_0 hx212_0 hx213_0 hHeld ⊢
       refine runs_ [(0, some 134), (2, some 136), (4, some 138), (6, some 140), (8, some 142), (10, some 144), (12, some 146), (14, some 148)] ?_
       iterate 8 (refine pL_ ?_)
       refine runsE_ ?_
       refine take_ (i := 1) (N := some 135) (v := ?_) (a' := ?_) #[true, true, true, false, true, false, true, false, true, false, true, false, true, false, true, false, false, false, false, false, false, false, false, false] rfl rfl (take_ofW HT_.out HW_.out (by kernel_rfl)) (fun _ _ _ h => h) (Or.inl ⟨by rfl, ?_⟩) hHeld ?_ ?_
       rotate_left
       ·rintro w' ⟨s0, s1, s2, s3, s4, s5, s6, s7⟩
        go_simp
        with_reducible rfl
       rotate_left
       ·simp only [pr_]
        rfl
       refine pure_ (i := 16) (N := some 11) (v := ?_) (a' := ?_) #[true, true, true, false, true, false, true, false, true, false, true, false, true, false, true, false, true, false, false, false, false, false, false, false] rfl rfl (any_of HT_.out (by kernel_rfl)) (fun _ _ _ h => h) (Or.inl ⟨by rfl, ?_⟩) ?_ ?_
       rotate_left
       ·intro w'
        go_simp
        with_reducible rfl
       rotate_left
       ·simp only [pr_]
        rfl
       refine take_ (i := 3) (N := some 137) (v := ?_) (a' := ?_) #[true, true, true, true, true, false, true, false, true, false, true, false, true, false, true, false, true, false, false, false, false, false, false, false] rfl rfl (take_ofW HT_.out HW_.out (by kernel_rfl)) (fun _ _ _ h => h) (Or.inl ⟨by rfl, ?_⟩) hHeld ?_ ?_
       rotate_left
       ·rintro w' ⟨s0, s1, s2, s3, s4, s5, s6, s7⟩
        go_simp
        with_reducible rfl
       rotate_left
       ·simp only [pr_]
        rfl
       refine pure_ (i := 17) (N := some 12) (v := ?_) (a' := ?_) #[true, true, true, true, true, false, true, false, true, false, true, false, true, false, true, false, true, true, false, false, false, false, false, false] rfl rfl (any_of HT_.out (by kernel_rfl)) (fun _ _ _ h => h) (Or.inl ⟨by rfl, ?_⟩) ?_ ?_
       rotate_left
       ·intro w'
        go_simp
        with_reducible rfl
       rotate_left
       ·simp only [pr_]
        rfl
       refine take_ (i := 5) (N := some 139) (v := ?_) (a' := ?_) #[true, true, true, true, true, true, true, false, true, false, true, false, true, false, true, false, true, true, false, false, false, false, false, false] rfl rfl (take_ofW HT_.out HW_.out (by kernel_rfl)) (fun _ _ _ h => h) (Or.inl ⟨by rfl, ?_⟩) hHeld ?_ ?_
       rotate_left
       ·rintro w' ⟨s0, s1, s2, s3, s4, s5, s6, s7⟩
        go_simp
        with_reducible rfl
       rotate_left
       ·simp only [pr_]
        rfl
       refine pure_ (i := 18) (N := some 13) (v := ?_) (a' := ?_) #[true, true, true, true, true, true, true, false, true, false, true, false, true, false, true, false, true, true, true, false, false, false, false, false] rfl rfl (any_of HT_.out (by kernel_rfl)) (fun _ _ _ h => h) (Or.inl ⟨by rfl, ?_⟩) ?_ ?_
       rotate_left
       ·intro w'
        go_simp
        with_reducible rfl
       rotate_left
       ·simp only [pr_]
        rfl
       refine take_ (i := 7) (N := some 141) (v := ?_) (a' := ?_) #[true, true, true, true, true, true, true, true, true, false, true, false, true, false, true, false, true, true, true, false, false, false, false, false] rfl rfl (take_ofW HT_.out HW_.out (by kernel_rfl)) (fun _ _ _ h => h) (Or.inl ⟨by rfl, ?_⟩) hHeld ?_ ?_
       rotate_left
       ·rintro w' ⟨s0, s1, s2, s3, s4, s5, s6, s7⟩
        go_simp
        with_reducible rfl
       rotate_left
       ·simp only [pr_]
        rfl
       refine pure_ (i := 19) (N := some 14) (v := ?_) (a' := ?_) #[true, true, true, true, true, true, true, true, true, false, true, false, true, false, true, false, true, true, true, true, false, false, false, false] rfl rfl (any_of HT_.out (by kernel_rfl)) (fun _ _ _ h => h) (Or.inl ⟨by rfl, ?_⟩) ?_ ?_
       rotate_left
       ·intro w'
        go_simp
        with_reducible rfl
       rotate_left
       ·simp only [pr_]
        rfl
       refine take_ (i := 9) (N := some 143) (v := ?_) (a' := ?_) #[true, true, true, true, true, true, true, true, true, true, true, false, true, false, true, false, true, true, true, true, false, false, false, false] rfl rfl (take_ofW HT_.out HW_.out (by kernel_rfl)) (fun _ _ _ h => h) (Or.inl ⟨by rfl, ?_⟩) hHeld ?_ ?_
       rotate_left
       ·rintro w' ⟨s0, s1, s2, s3, s4, s5, s6, s7⟩
        go_simp
        with_reducible rfl
       rotate_left
       ·simp only [pr_]
        rfl
       refine pure_ (i := 20) (N := some 15) (v := ?_) (a' := ?_) #[true, true, true, true, true, true, true, true, true, true, true, false, true, false, true, false, true, true, true, true, true, false, false, false] rfl rfl (any_of HT_.out (by kernel_rfl)) (fun _ _ _ h => h) (Or.inl ⟨by rfl, ?_⟩) ?_ ?_
       rotate_left
       ·intro w'
        go_simp
        with_reducible rfl
       rotate_left
       ·simp only [pr_]
        rfl
       refine take_ (i := 11) (N := some 145) (v := ?_) (a' := ?_) #[true, true, true, true, true, true, true, true, true, true, true, true, true, false, true, false, true, true, true, true, true, false, false, false] rfl rfl (take_ofW HT_.out HW_.out (by kernel_rfl)) (fun _ _ _ h => h) (Or.inl ⟨by rfl, ?_⟩) hHeld ?_ ?_
       rotate_left
       ·rintro w' ⟨s0, s1, s2, s3, s4, s5, s6, s7⟩
        go_simp
        with_reducible rfl
       rotate_left
       ·simp only [pr_]
        rfl
       refine pure_ (i := 21) (N := some 16) (v := ?_) (a' := ?_) #[true, true, true, true, true, true, true, true, true, true, true, true, true, false, true, false, true, true, true, true, true, true, false, false] rfl rfl (any_of HT_.out (by kernel_rfl)) (fun _ _ _ h => h) (Or.inl ⟨by rfl, ?_⟩) ?_ ?_
       rotate_left
       ·intro w'
        go_simp
        with_reducible rfl
       rotate_left
       ·simp only [pr_]
        rfl
       refine take_ (i := 13) (N := some 147) (v := ?_) (a' := ?_) #[true, true, true, true, true, true, true, true, true, true, true, true, true, true, true, false, true, true, true, true, true, true, false, false] rfl rfl (take_ofW HT_.out HW_.out (by kernel_rfl)) (fun _ _ _ h => h) (Or.inl ⟨by rfl, ?_⟩) hHeld ?_ ?_
       rotate_left
       ·rintro w' ⟨s0, s1, s2, s3, s4, s5, s6, s7⟩
        go_simp
        with_reducible rfl
       rotate_left
       ·simp only [pr_]
        rfl
       refine pure_ (i := 22) (N := some 17) (v := ?_) (a' := ?_) #[true, true, true, true, true, true, true, true, true, true, true, true, true, true, true, false, true, true, true, true, true, true, true, false] rfl rfl (any_of HT_.out (by kernel_rfl)) (fun _ _ _ h => h) (Or.inl ⟨by rfl, ?_⟩) ?_ ?_
       rotate_left
       ·intro w'
        go_simp
        with_reducible rfl
       rotate_left
       ·simp only [pr_]
        rfl
       refine take_ (i := 15) (N := some 149) (v := ?_) (a' := ?_) #[true, true, true, true, true, true, true, true, true, true, true, true, true, true, true, true, true, true, true, true, true, true, true, false] rfl rfl (take_ofW HT_.out HW_.out (by kernel_rfl)) (fun _ _ _ h => h) (Or.inl ⟨by rfl, ?_⟩) hHeld ?_ ?_
       rotate_left
       ·rintro w' ⟨s0, s1, s2, s3, s4, s5, s6, s7⟩
        go_simp
        with_reducible rfl
       rotate_left
       ·simp only [pr_]
        rfl
       refine pure_ (i := 23) (N := some 18) (v := ?_) (a' := ?_) #[true, true, true, true, true, true, true, true, true, true, true, true, true, true, true, true, true, true, true, true, true, true, true, true] rfl rfl (any_of HT_.out (by kernel_rfl)) (fun _ _ _ h => h) (Or.inl ⟨by rfl, ?_⟩) ?_ ?_
       rotate_left
       ·intro w'
        go_simp
        with_reducible rfl
       rotate_left
       ·simp only [pr_]
        rfl
       refine done_ (done_of HT_.out (by kernel_rfl)) ?_
       try go_wp2
       go_loopg [11, 12, 13, 14, 15, 16, 17, 18, 19] k2 (fun kq v11 v12 v13 v14 v15 v16 v17 v18 v19 w' => ∃ (x11_3 : Int) (x12_3 : Int) (x13_3 : Int) (x14_3 : Int) (x15_3 : Int) (x16_3 : Int) (x17_3 : Int) (x18_3 : Int) (x19_3 : Int), v11 = .int .u32 x11_3 ∧ v12 = .int .u32 x12_3 ∧ v13 = .int .u32 x13_3 ∧ v14 = .int .u32 x14_3 ∧ v15 = .int .u32 x15_3 ∧ v16 = .int .u32 x16_3 ∧ v17 = .int .u32 x17_3 ∧ v18 = .int .u32 x18_3 ∧ v19 = .int .i64 x19_3 ∧ Aside0 (palaverref02_Sum.l2 kq x3_1 x4_1 t188 x6_1 x7_2 x11_3 x12_3 x13_3 x14_3 x15_3 x16_3 x17_3 x18_3 x19_3 = some r) ∧ Aside0 (kq ≤ k2) ∧ Aside0 (Kd.R (Kd.int .u32) 105 w' w.heap.size (fun _ => True) (.slice (some ⟨go5, 0, none⟩) x3_1.length co5) x3_1) ∧ Aside0 (Kd.R (Kd.int .u32) 113 w' w.heap.size (fun k_ => some k_ ≠ (v190 : Value).ownBlock) (.slice (some ⟨go9, 0, none⟩) x4_1.length co9) x4_1) ∧ Aside0 (Kd.R (Kd.int .u32) 113 w' w.heap.size (fun k_ => some k_ ≠ ((.slice (some ⟨go9, 0, none⟩) x4_1.length co9) : Value).ownBlock) v190 x7_2) ∧ Aside0 (Below w.heap.size w w'))
       case atStart => exact ⟨(rd x3_1 0), (rd x3_1 1), (rd x3_1 2), (rd x3_1 3), (rd x3_1 4), (rd x3_1 5), (rd x3_1 6), (rd x3_1 7), (0), vq_, vq_, vq_, vq_, vq_, vq_, vq_, vq_, vq_, H', ⟨Nat.le_refl _⟩, ⟨by refine mv_ ?_; exact HO_3.out⟩, ⟨by refine mv_ ?_; exact HO_4.out⟩, ⟨by refine mv_ ?_; exact HO_7.out⟩, ⟨bl_⟩⟩
       case round =>
        clear H'
        clear c25b0 c74b0 c74b1 c75b0 c75b1 c76b0 c76b1 c77b0 c77b1 c78b0 c78b1 c79b0 c79b1 c80b0 c80b1 c81b0 c81b1 c82b0 c82b1 hx206_0 hx207_0 hx208_0 hx209_0 hx210_0 hx211_0 hx212_0 hx213_0 p206 p207 p208 p209 p210 p211 p212 p213 q206 q207 q208 q209 q210 q211 q212 q213
        obtain ⟨x11_3, x12_3, x13_3, x14_3, x15_3, x16_3, x17_3, x18_3, x19_3, rfl, rfl, rfl, rfl, rfl, rfl, rfl, rfl, rfl, HA, HK3, HO_3, HO_4, HO_7, HB⟩ := hrel
        cases gk with
        | zero => exact absurd HA.out (by simp [palaverref02_Sum.l2])
        | succ k3 =>
         have H := HA.out
         clear HA
         simp only [palaverref02_Sum.l2] at H
         by_cases c84 : x19_3 < 64
         ·refine Nonempty.elim ?gc84p id
          letI i_ : type_of% ?gc84p := ⟨by
          rw [if_pos c84] at H
          have c84b0 : decide (x19_3 < 64) = true := decide_eq_true c84
          clear c84
          revert H; refine oa_ fun t214 A85 => oa_ fun t215 A86 => oa_ fun t216 A87 H => ?_
          by_cases c88 : x4_1.length = 64
          ·rw [if_pos c88] at H
           have c88b0 := eq_true c88
           have c88b1 : decide (x4_1.length = 64) = true := decide_eq_true c88
           clear c88
           revert H; refine nd_ fun c89 c89b0 => nd_ fun c90 c90b0 => ne_ fun c91 c91b0 c91b1 => nd_ fun c92 c92b0 => oa_ fun t219 A93 => oa_ fun t220 A94 => oa_ fun t221 A95 H => ?_
           clear c89 c90 c91 c92
           have H' := Aside0.mk H
           clear H
           try go_wp2_with (first | ((with_reducible refine gate_callee (f := 79) rfl ?_); refine gL_ 155 Tryd.func79 #[.int .u32 x15_3, .int .u32 6] ?_; (with_reducible refine (palaverref02_turn.calls x15_3 6 t214 _ A85.out).mono ?_); rintro e w' ⟨rfl, ⟨nd, rfl⟩⟩; refine ⟨_, rfl, ?_⟩) | ((with_reducible refine gate_callee (f := 79) rfl ?_); refine gL_ 157 Tryd.func79 #[.int .u32 x15_3, .int .u32 11] ?_; (with_reducible refine (palaverref02_turn.calls x15_3 11 t215 _ A86.out).mono ?_); rintro e w' ⟨rfl, ⟨nd, rfl⟩⟩; refine ⟨_, rfl, ?_⟩) | ((with_reducible refine gate_callee (f := 79) rfl ?_); refine gL_ 160 Tryd.func79 #[.int .u32 x15_3, .int .u32 25] ?_; (with_reducible refine (palaverref02_turn.calls x15_3 25 t216 _ A87.out).mono ?_); rintro e w' ⟨rfl, ⟨nd, rfl⟩⟩; refine ⟨_, rfl, ?_⟩))
           (rw [drewN_self wr]; generalize hq_ : World.drewN wr _ = wr; have n0_ : Aside0 (Kd.R (Kd.int .u32) 105 wr w.heap.size (fun _ => True) (.slice (some ⟨go5, 0, none⟩) x3_1.length co5) x3_1) := ⟨by rw [← hq_]; exact (mv_ HO_3.out)⟩; have n1_ : Aside0 (Kd.R (Kd.int .u32) 113 wr w.heap.size (fun k_ => some k_ ≠ (v190 : Value).ownBlock) (.slice (some ⟨go9, 0, none⟩) x4_1.length co9) x4_1) := ⟨by rw [← hq_]; exact (mv_ HO_4.out)⟩; have n2_ : Aside0 (Kd.R (Kd.int .u32) 113 wr w.heap.size (fun k_ => some k_ ≠ (.slice (some ⟨go9, 0, none⟩) x4_1.length co9 : Value).ownBlock) v190 x7_2) := ⟨by rw [← hq_]; exact (mv_ HO_7.out)⟩; have n3_ : Aside0 (Below w.heap.size w wr) := ⟨by rw [← hq_]; exact bl_⟩; clear HO_3 HO_4 HO_7 HB hq_; have HO_3 := n0_; have HO_4 := n1_; have HO_7 := n2_; have HB := n3_; clear n0_ n1_ n2_ n3_)
           replace HB := Aside0.mk (below_drew1 HB.out)
           replace HO_7 := Aside0.mk (Kd.R_drew HO_7.out)
           replace HO_4 := Aside0.mk (Kd.R_drew HO_4.out)
           replace HO_3 := Aside0.mk (Kd.R_drew HO_3.out)
           have qa217 : ((x19_3 : Int) < (64 : Int)) = True := qa_ x4_1 64
           have p217 : 0 ≤ (x19_3 : Int) := ad_
           have q217 : x19_3 < (x4_1.length : Int) := ad_
           obtain ⟨ad217, e217, hx217_0⟩ := Kd.at_int (Kd.R_reads' HO_4.out).2.2 x19_3 p217 q217
           obtain rfl : (⟨go9, 0, none⟩ : Addr) = ad217 := (by injection e217)
           (first | simp only [add_plain] at hx217_0 | simp only [add_at] at hx217_0 | simp only [Addr.add, Nat.zero_add] at hx217_0 | skip)
           replace p217 := eq_true p217
           replace q217 := eq_true q217
           obtain ⟨Ao97, co97, eo97⟩ := Kd.R_slice HO_7.out
           (first | subst eo97 | (injection eo97 with f1_ f2_ f3_; have f4_ := f1_.symm; have f5_ := f3_.symm; clear f1_ f2_ f3_; subst f4_; subst f5_))
           have qa218 : ((x19_3 : Int) < (64 : Int)) = True := qa_ x7_2 64
           have p218 : 0 ≤ (x19_3 : Int) := ad_
           have q218 : x19_3 < (x7_2.length : Int) := ad_
           obtain ⟨ad218, e218, hx218_0⟩ := Kd.at_int (Kd.R_reads' HO_7.out).2.2 x19_3 p218 q218
           cases e218
           replace p218 := eq_true p218
           replace q218 := eq_true q218
           refine start_ (n := 14) (S := fun w' => w'.cell? ⟨go9, (x19_3).toNat, none⟩ = some (.int .u32 (rd x4_1 x19_3)) ∧ w'.cell? (ad218.add (x19_3).toNat) = some (.int .u32 (rd x7_2 x19_3))) (ds := []) #[false, false, false, false, false, false, false, false, false, false, false, false, false, false] (by kernel_rfl) rfl rfl ⟨hx217_0, hx218_0⟩ (fun hHeld => ?_); refine with_tabW palaverref02_Sum.tab22 palaverref02_Sum.bits22 (fun HT_ HW_ => ?_)
           generalize wr.drew = w96 at HO_3 HO_4 HO_7 HB hx217_0 hx218_0 hHeld ⊢
           refine runs_ [(0, some 170), (1, some 171), (2, some 172), (3, some 173), (4, some 174), (5, some 175), (6, some 176), (9, some 179), (10, some 180)] ?_
           iterate 9 (refine pL_ ?_)
           refine runsE_ ?_
           refine take_ (i := 7) (N := some 177) (v := ?_) (a' := ?_) #[true, true, true, true, true, true, true, true, false, true, true, false, false, false] rfl rfl (take_ofW HT_.out HW_.out (by kernel_rfl)) (fun _ _ _ h => h) (Or.inl ⟨by rfl, ?_⟩) hHeld ?_ ?_
           rotate_left
           ·rintro w' ⟨s0, s1⟩
            go_simp
            with_reducible rfl
           rotate_left
           ·simp only [pr_]
            rfl
           refine pure_ (i := 8) (N := some 178) (v := ?_) (a' := ?_) #[true, true, true, true, true, true, true, true, true, true, true, false, false, false] rfl rfl (any_of HT_.out (by kernel_rfl)) (fun _ _ _ h => h) (Or.inl ⟨by rfl, ?_⟩) ?_ ?_
           rotate_left
           ·intro w'
            go_simp
            with_reducible rfl
           rotate_left
           ·simp only [pr_]
            rfl
           refine take_ (i := 11) (N := some 181) (v := ?_) (a' := ?_) #[true, true, true, true, true, true, true, true, true, true, true, true, false, false] rfl rfl (take_ofW HT_.out HW_.out (by kernel_rfl)) (fun _ _ _ h => h) (Or.inl ⟨by rfl, ?_⟩) hHeld ?_ ?_
           rotate_left
           ·rintro w' ⟨s0, s1⟩
            go_simp
            with_reducible rfl
           rotate_left
           ·simp only [pr_]
            rfl
           refine runs_ [(12, some 182), (13, some 22)] ?_
           iterate 2 (refine pL_ ?_)
           refine runsE_ ?_
           refine done_ (done_of HT_.out (by kernel_rfl)) ?_
           try go_wp2_with (first | ((with_reducible refine gate_callee (f := 79) rfl ?_); refine gL_ 184 Tryd.func79 #[.int .u32 x11_3, .int .u32 2] ?_; (with_reducible refine (palaverref02_turn.calls x11_3 2 t219 _ A93.out).mono ?_); rintro e w' ⟨rfl, ⟨nd, rfl⟩⟩; refine ⟨_, rfl, ?_⟩) | ((with_reducible refine gate_callee (f := 79) rfl ?_); refine gL_ 186 Tryd.func79 #[.int .u32 x11_3, .int .u32 13] ?_; (with_reducible refine (palaverref02_turn.calls x11_3 13 t220 _ A94.out).mono ?_); rintro e w' ⟨rfl, ⟨nd, rfl⟩⟩; refine ⟨_, rfl, ?_⟩) | ((with_reducible refine gate_callee (f := 79) rfl ?_); refine gL_ 189 Tryd.func79 #[.int .u32 x11_3, .int .u32 22] ?_; (with_reducible refine (palaverref02_turn.calls x11_3 22 t221 _ A95.out).mono ?_); rintro e w' ⟨rfl, ⟨nd, rfl⟩⟩; refine ⟨_, rfl, ?_⟩))
           go_roundg k3
           case measure => have := HK1.out; have := HK2.out; have := HK3.out; omega
           case rel => exact ⟨((((((x18_3 + (Go.bits .xor .u32 (Go.bits .xor .u32 t214 t215) t216)) + (Go.bits .xor .u32 (Go.bits .and .u32 x15_3 x16_3) (Go.bits .and .u32 (Go.bits .xor .u32 4294967295 x15_3) x17_3))) + (rd x4_1 x19_3)) + (rd x7_2 x19_3)) + ((Go.bits .xor .u32 (Go.bits .xor .u32 t219 t220) t221) + (Go.bits .xor .u32 (Go.bits .xor .u32 (Go.bits .and .u32 x11_3 x12_3) (Go.bits .and .u32 x11_3 x13_3)) (Go.bits .and .u32 x12_3 x13_3)))) % 4294967296), (x11_3), (x12_3), (x13_3), ((x14_3 + ((((x18_3 + (Go.bits .xor .u32 (Go.bits .xor .u32 t214 t215) t216)) + (Go.bits .xor .u32 (Go.bits .and .u32 x15_3 x16_3) (Go.bits .and .u32 (Go.bits .xor .u32 4294967295 x15_3) x17_3))) + (rd x4_1 x19_3)) + (rd x7_2 x19_3))) % 4294967296), (x15_3), (x16_3), (x17_3), (wrap64 (x19_3 + 1)), vq_, vq_, vq_, vq_, vq_, vq_, vq_, vq_, vq_, H', ⟨by have := HK1.out; have := HK2.out; have := HK3.out; omega⟩, ⟨by refine mv_ ?_; exact HO_3.out⟩, ⟨by refine mv_ ?_; exact HO_4.out⟩, ⟨by refine mv_ ?_; exact HO_7.out⟩, ⟨bl_⟩⟩
          ·rw [if_neg c88] at H
           exact absurd H (by simp)
          ⟩
          exact inferInstanceAs _
         refine Nonempty.elim ?gc84n id
         letI i_ : type_of% ?gc84n := ⟨by
         rw [if_neg c84] at H
         have c84b0 : decide (x19_3 < 64) = false := decide_eq_false c84
         clear c84
         revert H; refine oy_ fun y222 Ny222 H => ?_
         by_cases c98 : y222.length = 8
         ·rw [if_pos c98] at H
          have c98b0 := eq_true c98
          have c98b1 : decide (y222.length = 8) = true := decide_eq_true c98
          clear c98
          revert H; refine nd_ fun c99 c99b0 H => ?_
          have c99b1 : decide (0 < y222.length) = true := decide_eq_true (by omega)
          clear c99
          generalize e_ : ([x11_3, x12_3, x13_3, x14_3, x15_3, x16_3, x17_3, x18_3] : List Int) = y225 at H
          have Ny225 := Aside0.mk e_.symm
          clear e_
          have H' := Aside0.mk H
          clear H
          go_wp2_with (first | ((with_reducible refine gate_dst (N := 26) rfl ?_); refine R_arr (Value.int .u32) (fun _ => rfl) _ 105 ?hg (N := 26) ?hd (List.replicate 8 0) ?hr (Below.refl _ _) (Nat.le_refl _) (by decide) ?_; (case hd => rfl); (case hg => rfl); (case hr => exact gr_); intro v223 w101 ho102 hb hg_ hnew_; clear hg_ hnew_; (first | rw [← Ny222.out] at ho102 | (simp only [Int.reduceToNat] at ho102; rw [← Ny222.out] at ho102)); have HO224 := Aside0.mk (Kd.R_lower (Kd.R_new' ho102 (Kd.R_lt (mv_ HO_3.out))) (below_size bl_)); replace HB := Aside0.mk (below_step bl_ hb); replace HO_7 := Aside0.mk (Kd.R_below (mv_ HO_7.out) hb); replace HO_4 := Aside0.mk (Kd.R_below (mv_ HO_4.out) hb); replace HO_3 := Aside0.mk (Kd.R_elder' (mv_ HO_3.out) (Kd.R_base ho102) hb); clear hb ho102; have qa100 : ((0 : Int) < (8 : Int)) = True := qa_ y222 8; have p100 : 0 ≤ (0 : Int) := (by omega); have q100 : (0 : Int) < ((y222.length : Int) : Int) := ad_; have qi100 : (0 < y222.length) = True := eq_true (by omega); obtain ⟨go100, co100, eo100, gb100, gl100, cl100, HG100⟩ := Kd.R_form HO224.out (by omega); (first | cases eo100 | (injection eo100 with ea_ en_ ec_; (first | subst ea_ | (injection ea_ with ea_; subst ea_)); subst ec_; clear en_)); have GB100 := Aside0.mk gb100; have GG100 := Aside0.mk HG100; clear gb100 gl100 HG100; obtain ⟨hx100_0, hf100_0⟩ := Kd.R_celln 0 HO224.out (0 : Int) p100 q100; (rw [show ((0 : Int)).toNat = 0 from rfl] at hx100_0); (rw [show ((0 : Int)).toNat = 0 from rfl] at hf100_0); replace p100 := eq_true p100; replace q100 := eq_true q100; have n_ := Aside0.mk (Kd.R_mono (ok' := (fun k_ => some k_ ≠ (.slice (some ⟨go5, 0, none⟩) x3_1.length co5 : Value).ownBlock)) HO224.out (fun k_ hk => hk.2)); clear HO224; have HO224 := n_; clear n_; have HP103 := R_whole (ys := [x11_3, x12_3, x13_3, x14_3, x15_3, x16_3, x17_3, x18_3]) HO224.out (by have e_ : y222.length = 8 := ad_; have e2_ := (Kd.R_reads' HO224.out).1; first | (rw [e_]; rfl) | (simp only [List.length_cons, List.length_nil]; omega))) | ((with_reducible refine gate_store (t := 105) (p := 26) rfl ?_); refine store_event (t := 105) (p := 26) (v := ?vo_w104) (w1 := (w101.setCells go100 0 (encs (Value.int .u32) [x11_3, x12_3, x13_3, x14_3, x15_3, x16_3, x17_3, x18_3]))) ?hg ?ho ?hn ?hr ?_; (case ho => rfl); (case hg => rfl); (case hn => rfl); (case hr => exact whole_run (ys := [x11_3, x12_3, x13_3, x14_3, x15_3, x16_3, x17_3, x18_3]) rfl rfl rfl (by kernel_rfl) HO224.out (by have e_ : y222.length = 8 := ad_; have e2_ := (Kd.R_reads' HO224.out).1; first | (rw [e_]; rfl) | (simp only [List.length_cons, List.length_nil]; omega))); intro w104 hw; have hg : w101.grownBy w104 (some go100) := (by rw [hw]; exact HP103.2); have hp_ : Kd.R (Kd.int .u32) 105 w104 w.heap.size (fun k_ => some k_ ≠ (.slice (some ⟨go5, 0, none⟩) x3_1.length co5 : Value).ownBlock) (.slice (some ⟨go100, 0, none⟩) y222.length co100) y225 := (by rw [hw, Ny225.out]; exact HP103.1); clear HP103; replace HB := Aside0.mk ((Below.grown HB.out hg (below_size HB.out) (fun k_ e_ => (Option.some.inj e_) ▸ GB100.out) : Below w.heap.size w w104)); replace HO_7 := Aside0.mk (Kd.R_over' (v := (.slice (some ⟨go100, 0, none⟩) y222.length co100)) (mv_ HO_7.out) (Kd.R_typed HO224.out) (by decide) hg); replace HO_4 := Aside0.mk (Kd.R_over' (v := (.slice (some ⟨go100, 0, none⟩) y222.length co100)) (mv_ HO_4.out) (Kd.R_typed HO224.out) (by decide) hg); replace HO224 := Aside0.mk (hp_); replace HO_3 := Aside0.mk (Kd.R_after (v := (.slice (some ⟨go100, 0, none⟩) y222.length co100)) (v1 := (.slice (some ⟨go100, 0, none⟩) y222.length co100)) (ok := (fun _ => True)) (mv_ HO_3.out) hg (.inl rfl)); clear hg hw hp_))
          go_loopg [27] k3 (fun kq v27 w' => ∃ (x3_4 : List Int) (x27_4 : Int), v27 = .int .i64 x27_4 ∧ Aside0 (palaverref02_Sum.l3 kq x3_4 x4_1 t188 x6_1 y225 x27_4 = some r) ∧ Aside0 (kq ≤ k3) ∧ Aside0 (Kd.R (Kd.int .u32) 105 w' w.heap.size (fun k_ => some k_ ≠ ((.slice (some ⟨go100, 0, none⟩) y222.length co100) : Value).ownBlock) (.slice (some ⟨go5, 0, none⟩) x3_1.length co5) x3_4) ∧ Aside0 (Kd.R (Kd.int .u32) 113 w' w.heap.size (fun _ => True) (.slice (some ⟨go9, 0, none⟩) x4_1.length co9) x4_1) ∧ Aside0 (Kd.R (Kd.int .u32) 105 w' w.heap.size (fun k_ => some k_ ≠ ((.slice (some ⟨go5, 0, none⟩) x3_1.length co5) : Value).ownBlock) (.slice (some ⟨go100, 0, none⟩) y222.length co100) y225) ∧ Aside0 (Below w.heap.size w w'))
          case atStart => exact ⟨(x3_1), (0), vq_, H', ⟨Nat.le_refl _⟩, ⟨by refine mv_ ?_; exact Kd.R_mono HO_3.out (fun _ hk => hk.2)⟩, ⟨by refine mv_ ?_; exact Kd.R_mono HO_4.out (fun _ hk => trivial)⟩, ⟨by refine mv_ ?_; exact HO224.out⟩, ⟨bl_⟩⟩
          case round =>
           clear H'
           clear c84b0 c98b0 c98b1 c99b0 c99b1 p100 q100 qi100 hx100_0
           obtain ⟨x3_4, x27_4, rfl, HA, HK4, HO_3, HO_4, HO_26, HB⟩ := hrel
           have hl3_4 := (Kd.R_reads' HO_3.out).1
           rw [hl3_4] at HO_3
           simp only [hl3_4]
           simp only [hl3_4] at HO_26
           have hl26_4 := (Kd.R_reads' HO_26.out).1
           rw [hl26_4] at HO_26
           simp only [hl26_4]
           simp only [hl26_4] at HO_3
           cases gk with
           | zero => exact absurd HA.out (by simp [palaverref02_Sum.l3])
           | succ k4 =>
            have H := HA.out
            clear HA
            simp only [palaverref02_Sum.l3] at H
            by_cases c105 : x27_4 < 8
            ·refine Nonempty.elim ?gc105p id
             letI i_ : type_of% ?gc105p := ⟨by
             rw [if_pos c105] at H
             have c105b0 : decide (x27_4 < 8) = true := decide_eq_true c105
             clear c105
             by_cases c106 : x3_4.length = 8
             ·rw [if_pos c106] at H
              have c106b0 := eq_true c106
              have c106b1 : decide (x3_4.length = 8) = true := decide_eq_true c106
              clear c106
              revert H; refine nd_ fun c107 c107b0 => nd_ fun c108 c108b0 => ne_ fun c109 c109b0 c109b1 => nd_ fun c110 c110b0 H => ?_
              clear c107 c108 c109 c110
              generalize e_ : (x3_4.set (x27_4 : Int).toNat (((rd x3_4 x27_4) + (rd y225 x27_4)) % 4294967296) : List Int) = y228 at H
              have Ny228 := Aside0.mk e_.symm
              clear e_
              have H' := Aside0.mk H
              clear H
              try go_wp2
              replace HB := Aside0.mk (below_drew1 HB.out)
              replace HO_26 := Aside0.mk (Kd.R_drew HO_26.out)
              replace HO_4 := Aside0.mk (Kd.R_drew HO_4.out)
              replace HO_3 := Aside0.mk (Kd.R_drew HO_3.out)
              have qa226 : ((x27_4 : Int) < (8 : Int)) = True := qa_ x3_4 8
              have p226 : 0 ≤ (x27_4 : Int) := ad_
              have q226 : x27_4 < (x3_4.length : Int) := ad_
              obtain ⟨ad226, e226, hx226_0⟩ := Kd.at_int (Kd.R_reads' HO_3.out).2.2 x27_4 p226 q226
              obtain rfl : (⟨go5, 0, none⟩ : Addr) = ad226 := (by injection e226)
              (first | simp only [add_plain] at hx226_0 | simp only [add_at] at hx226_0 | simp only [Addr.add, Nat.zero_add] at hx226_0 | skip)
              replace p226 := eq_true p226
              replace q226 := eq_true q226
              have qa227 : ((x27_4 : Int) < (8 : Int)) = True := qa_ y225 8
              have p227 : 0 ≤ (x27_4 : Int) := ad_
              have q227 : x27_4 < (y225.length : Int) := ad_
              obtain ⟨ad227, e227, hx227_0⟩ := Kd.at_int (Kd.R_reads' HO_26.out).2.2 x27_4 p227 q227
              obtain rfl : (⟨go100, 0, none⟩ : Addr) = ad227 := (by injection e227)
              (first | simp only [add_plain] at hx227_0 | simp only [add_at] at hx227_0 | simp only [Addr.add, Nat.zero_add] at hx227_0 | skip)
              replace p227 := eq_true p227
              replace q227 := eq_true q227
              have qa111 : ((x27_4 : Int) < (8 : Int)) = True := qa_ x3_4 8
              have p111 : 0 ≤ (x27_4 : Int) := ad_
              have q111 : (x27_4 : Int) < ((x3_4.length : Int) : Int) := ad_
              obtain ⟨hx111_0, hf111_0⟩ := Kd.R_celln 0 HO_3.out (x27_4 : Int) p111 q111
              replace p111 := eq_true p111
              replace q111 := eq_true q111
              have HP113 := Kd.R_putn HO_3.out (x27_4 : Int) (((rd x3_4 x27_4) + (rd y225 x27_4)) % 4294967296)
              rw [← Ny228.out] at HP113
              have HQ113 := Aside0.mk HP113
              clear HP113
              refine start_ (n := 10) (S := fun w' => w'.cell? ⟨go5, (x27_4).toNat, none⟩ = some (.int .u32 (rd x3_4 x27_4)) ∧ w'.cell? ⟨go100, (x27_4).toNat, none⟩ = some (.int .u32 (rd y225 x27_4))) (ds := [9]) #[false, false, false, false, false, false, false, false, false, false] (by kernel_rfl) rfl rfl ⟨hx226_0, hx227_0⟩ (fun hHeld => ?_); refine with_tabW palaverref02_Sum.tab38 palaverref02_Sum.bits38 (fun HT_ HW_ => ?_)
              generalize wr.drew = w112 at HO_3 HO_4 HO_26 HB HQ113 hf111_0 hx111_0 hx226_0 hx227_0 hHeld ⊢
              refine runs_ [(0, some 230), (1, some 231), (2, some 232), (4, some 234), (5, some 235)] ?_
              iterate 5 (refine pL_ ?_)
              refine runsE_ ?_
              refine runs_ [(3, some 233), (6, some 236)] ?_
              iterate 2 (refine takeL_ (v := ?_) (a' := ?_) rfl rfl (take_ofW HT_.out HW_.out (by kernel_rfl)) (Or.inl ⟨by rfl, ?_⟩) hHeld ?_ ?_ (fun _ _ _ h => h); rotate_left; (rintro w' ⟨s0, s1⟩; go_simp; with_reducible rfl); rotate_left; (simp only [pr_]; rfl))
              refine runsE_ ?_
              refine runs_ [(7, some 237), (8, some 238)] ?_
              iterate 2 (refine pL_ ?_)
              refine runsE_ ?_
              refine last_ (i := 9) (N := none) #[true, true, true, true, true, true, true, true, true, true] rfl rfl (one_of HT_.out (by kernel_rfl)) (by decide) (fun K hK => ?_)
              refine skip_set ⟨go5, (x27_4 : Int).toNat, none⟩ (.int .u32 (((rd x3_4 x27_4) + (rd y225 x27_4)) % 4294967296)) (by rfl) rfl ?_ ?_
              ·first | (go_simp; done) | (go_simp; rfl) | (go_simp; (try simp only [IntKind.wrap_u32, IntKind.wrap_u8]); refine congrArg (fun v_ => World.setCell _ _ (Value.int _ v_)) ?_; omega)
              refine hK.out _ _ ?_
              clear hK K
              refine done_ (done_of HT_.out (by kernel_rfl)) ?_
              try go_wp2
              simp only [← hl3_4, ← hl26_4]
              go_roundg k4
              case measure => have := HK1.out; have := HK2.out; have := HK3.out; have := HK4.out; omega
              case rel => exact ⟨(y228), (wrap64 (x27_4 + 1)), vq_, H', ⟨by have := HK1.out; have := HK2.out; have := HK3.out; have := HK4.out; omega⟩, ⟨by (simp only [hl3_4]); (simp only [hl26_4]); refine mv_ ?_; exact HQ113.out⟩, ⟨by refine mv_ ?_; exact Kd.R_mono (Kd.R_far (p := ⟨go5, (x27_4 : Int).toNat, none⟩) (Kd.R_types HO_4.out (Kd.R_typed HO_3.out _ rfl).choose_spec (by decide)) (fun _ hk => hk.2) (.int .u32 (((rd x3_4 x27_4) + (rd y225 x27_4)) % 4294967296))) (fun _ hk => trivial)⟩, ⟨by (simp only [hl3_4]); (simp only [hl26_4]); refine mv_ ?_; exact Kd.R_mono (Kd.R_far (p := ⟨go5, (x27_4 : Int).toNat, none⟩) (Kd.R_mono HO_26.out (fun k_ hk => (⟨hk, fun e_ => hk (by rw [e_]; rfl)⟩ : _ ∧ k_ ≠ go5))) (fun _ hk => hk.2) (.int .u32 (((rd x3_4 x27_4) + (rd y225 x27_4)) % 4294967296))) (fun _ hk => hk.1)⟩, ⟨bs_ GB5.out⟩⟩
             ·rw [if_neg c106] at H
              exact absurd H (by simp)
             ⟩
             exact inferInstanceAs _
            rw [if_neg c105] at H
            have c105b0 : decide (x27_4 < 8) = false := decide_eq_false c105
            clear c105
            have H' := Aside0.mk H
            clear H
            go_wp2
            simp only [← hl3_1, ← hl4_1, ← hl3_4, ← hl26_4]
            go_roundg k4
            case measure => have := HK1.out; have := HK2.out; have := HK3.out; have := HK4.out; omega
            case rel => exact ⟨(x3_4), (x4_1), (wrap64 (x6_1 + 64)), vq_, H', ⟨by have := HK1.out; have := HK2.out; have := HK3.out; have := HK4.out; omega⟩, ⟨by (simp only [hl3_1]); (simp only [hl3_4]); refine mv_ ?_; exact Kd.R_mono HO_3.out (fun _ hk => trivial)⟩, ⟨by (simp only [hl4_1]); refine mv_ ?_; exact HO_4.out⟩, ⟨bl_⟩⟩
         ·rw [if_neg c98] at H
          exact absurd H (by simp)
         ⟩
         exact inferInstanceAs _
      ·rw [if_neg c74] at H
       exact absurd H (by simp)
      ⟩
      exact inferInstanceAs _
    ⟩
    exact inferInstanceAs _
   refine Nonempty.elim ?gc22n id
   letI i_ : type_of% ?gc22n := ⟨by
   rw [if_neg c22] at H
   have c22b0 : decide (x6_1 < (t188.size : Int)) = false := decide_eq_false c22
   clear c22
   have H' := Aside0.mk H
   clear H
   go_wp2
   go_loopg [28, 29] k1 (fun kq v28 v29 w' => ∃ (x28_2 : List Int) (x29_2 : Int), v29 = .int .i64 x29_2 ∧ Aside0 (palaverref02_Sum.l4 kq x3_1 x28_2 x29_2 = some r) ∧ Aside0 (kq ≤ k1) ∧ Aside0 (Kd.R (Kd.int .u32) 105 w' w.heap.size (fun _ => True) (.slice (some ⟨go5, 0, none⟩) x3_1.length co5) x3_1) ∧ Aside0 (Kd.R (Kd.int .u8) 5 w' w.heap.size (fun _ => True) v28 x28_2) ∧ Aside0 (Below w.heap.size w w'))
   case atStart => exact ⟨(([] : List Int)), (0), vq_, H', ⟨Nat.le_refl _⟩, ⟨by refine mv_ ?_; exact HO_3.out⟩, ⟨by first | exact Kd.R_nil _ _ _ _ _ | exact Kd.N_nil _ _ _ _ _ | exact Kd.V_nil _ _ _ _ _ | exact Kd.Q_nil _ _ _ _ _ | exact Kd.S_nil _ _ _ _ _⟩, ⟨bl_⟩⟩
   case round =>
    clear H'
    clear c22b0
    obtain ⟨x28_2, x29_2, rfl, HA, HK2, HO_3, HO_28, HB⟩ := hrel
    cases gk with
    | zero => exact absurd HA.out (by simp [palaverref02_Sum.l4])
    | succ k2 =>
     have H := HA.out
     clear HA
     simp only [palaverref02_Sum.l4] at H
     by_cases c114 : x29_2 < 8
     ·refine Nonempty.elim ?gc114p id
      letI i_ : type_of% ?gc114p := ⟨by
      rw [if_pos c114] at H
      have c114b0 : decide (x29_2 < 8) = true := decide_eq_true c114
      clear c114
      by_cases c115 : x3_1.length = 8
      ·rw [if_pos c115] at H
       have c115b0 := eq_true c115
       have c115b1 : decide (x3_1.length = 8) = true := decide_eq_true c115
       clear c115
       revert H; refine nd_ fun c116 c116b0 => nd_ fun c117 c117b0 => oy_ fun y233 Ny233 => nc_ fun c118 H => ?_
       have LMc118 := Aside0.mk c118
       clear c116 c117 c118
       generalize e_ : (x28_2 ++ y233 : List Int) = y236 at H
       have Ny236 := Aside0.mk e_.symm
       clear e_
       have H' := Aside0.mk H
       clear H
       try go_wp2
       replace HB := Aside0.mk (below_drew1 HB.out)
       replace HO_28 := Aside0.mk (Kd.R_drew HO_28.out)
       replace HO_3 := Aside0.mk (Kd.R_drew HO_3.out)
       have qa229 : ((x29_2 : Int) < (8 : Int)) = True := qa_ x3_1 8
       have p229 : 0 ≤ (x29_2 : Int) := ad_
       have q229 : x29_2 < (x3_1.length : Int) := ad_
       obtain ⟨ad229, e229, hx229_0⟩ := Kd.at_int (Kd.R_reads' HO_3.out).2.2 x29_2 p229 q229
       obtain rfl : (⟨go5, 0, none⟩ : Addr) = ad229 := (by injection e229)
       (first | simp only [add_plain] at hx229_0 | simp only [add_at] at hx229_0 | simp only [Addr.add, Nat.zero_add] at hx229_0 | skip)
       replace p229 := eq_true p229
       replace q229 := eq_true q229
       have qa230 : ((x29_2 : Int) < (8 : Int)) = True := qa_ x3_1 8
       have p230 : 0 ≤ (x29_2 : Int) := ad_
       have q230 : x29_2 < (x3_1.length : Int) := ad_
       obtain ⟨ad230, e230, hx230_0⟩ := Kd.at_int (Kd.R_reads' HO_3.out).2.2 x29_2 p230 q230
       obtain rfl : (⟨go5, 0, none⟩ : Addr) = ad230 := (by injection e230)
       (first | simp only [add_plain] at hx230_0 | simp only [add_at] at hx230_0 | simp only [Addr.add, Nat.zero_add] at hx230_0 | skip)
       replace p230 := eq_true p230
       replace q230 := eq_true q230
       have qa231 : ((x29_2 : Int) < (8 : Int)) = True := qa_ x3_1 8
       have p231 : 0 ≤ (x29_2 : Int) := ad_
       have q231 : x29_2 < (x3_1.length : Int) := ad_
       obtain ⟨ad231, e231, hx231_0⟩ := Kd.at_int (Kd.R_reads' HO_3.out).2.2 x29_2 p231 q231
       obtain rfl : (⟨go5, 0, none⟩ : Addr) = ad231 := (by injection e231)
       (first | simp only [add_plain] at hx231_0 | simp only [add_at] at hx231_0 | simp only [Addr.add, Nat.zero_add] at hx231_0 | skip)
       replace p231 := eq_true p231
       replace q231 := eq_true q231
       have qa232 : ((x29_2 : Int) < (8 : Int)) = True := qa_ x3_1 8
       have p232 : 0 ≤ (x29_2 : Int) := ad_
       have q232 : x29_2 < (x3_1.length : Int) := ad_
       obtain ⟨ad232, e232, hx232_0⟩ := Kd.at_int (Kd.R_reads' HO_3.out).2.2 x29_2 p232 q232
       obtain rfl : (⟨go5, 0, none⟩ : Addr) = ad232 := (by injection e232)
       (first | simp only [add_plain] at hx232_0 | simp only [add_at] at hx232_0 | simp only [Addr.add, Nat.zero_add] at hx232_0 | skip)
       replace p232 := eq_true p232
       replace q232 := eq_true q232
       refine start_ (n := 23) (S := fun w' => w'.cell? ⟨go5, (x29_2).toNat, none⟩ = some (.int .u32 (rd x3_1 x29_2)) ∧ w'.cell? ⟨go5, (x29_2).toNat, none⟩ = some (.int .u32 (rd x3_1 x29_2)) ∧ w'.cell? ⟨go5, (x29_2).toNat, none⟩ = some (.int .u32 (rd x3_1 x29_2)) ∧ w'.cell? ⟨go5, (x29_2).toNat, none⟩ = some (.int .u32 (rd x3_1 x29_2))) (ds := [21]) #[false, false, false, false, false, false, false, false, false, false, false, false, false, false, false, false, false, false, false, false, false, false, false] (by kernel_rfl) rfl rfl ⟨hx229_0, hx230_0, hx231_0, hx232_0⟩ (fun hHeld => ?_); refine with_tabW palaverref02_Sum.tab43 palaverref02_Sum.bits43 (fun HT_ HW_ => ?_)
       generalize wr.drew = w119 at HO_3 HO_28 HB hx229_0 hx230_0 hx231_0 hx232_0 hHeld ⊢
       refine runs_ [(0, some 243), (1, some 244), (2, some 245), (6, some 249), (7, some 250), (11, some 254), (12, some 255), (16, some 259), (17, some 260)] ?_
       iterate 9 (refine pL_ ?_)
       refine runsE_ ?_
       refine take_ (i := 3) (N := some 246) (v := ?_) (a' := ?_) #[true, true, true, true, false, false, true, true, false, false, false, true, true, false, false, false, true, true, false, false, false, false, false] rfl rfl (take_ofW HT_.out HW_.out (by kernel_rfl)) (fun _ _ _ h => h) (Or.inl ⟨by rfl, ?_⟩) hHeld ?_ ?_
       rotate_left
       ·rintro w' ⟨s0, s1, s2, s3⟩
        go_simp
        with_reducible rfl
       rotate_left
       ·simp only [pr_]
        rfl
       refine runs_ [(4, some 247), (5, some 248)] ?_
       iterate 2 (refine pL_ ?_)
       refine runsE_ ?_
       refine take_ (i := 8) (N := some 251) (v := ?_) (a' := ?_) #[true, true, true, true, true, true, true, true, true, false, false, true, true, false, false, false, true, true, false, false, false, false, false] rfl rfl (take_ofW HT_.out HW_.out (by kernel_rfl)) (fun _ _ _ h => h) (Or.inl ⟨by rfl, ?_⟩) hHeld ?_ ?_
       rotate_left
       ·rintro w' ⟨s0, s1, s2, s3⟩
        go_simp
        with_reducible rfl
       rotate_left
       ·simp only [pr_]
        rfl
       refine runs_ [(9, some 252), (10, some 253)] ?_
       iterate 2 (refine pL_ ?_)
       refine runsE_ ?_
       refine take_ (i := 13) (N := some 256) (v := ?_) (a' := ?_) #[true, true, true, true, true, true, true, true, true, true, true, true, true, true, false, false, true, true, false, false, false, false, false] rfl rfl (take_ofW HT_.out HW_.out (by kernel_rfl)) (fun _ _ _ h => h) (Or.inl ⟨by rfl, ?_⟩) hHeld ?_ ?_
       rotate_left
       ·rintro w' ⟨s0, s1, s2, s3⟩
        go_simp
        with_reducible rfl
       rotate_left
       ·simp only [pr_]
        rfl
       refine runs_ [(14, some 257), (15, some 258)] ?_
       iterate 2 (refine pL_ ?_)
       refine runsE_ ?_
       refine take_ (i := 18) (N := some 261) (v := ?_) (a' := ?_) #[true, true, true, true, true, true, true, true, true, true, true, true, true, true, true, true, true, true, true, false, false, false, false] rfl rfl (take_ofW HT_.out HW_.out (by kernel_rfl)) (fun _ _ _ h => h) (Or.inl ⟨by rfl, ?_⟩) hHeld ?_ ?_
       rotate_left
       ·rintro w' ⟨s0, s1, s2, s3⟩
        go_simp
        with_reducible rfl
       rotate_left
       ·simp only [pr_]
        rfl
       refine pure_ (i := 19) (N := some 262) (v := ?_) (a' := ?_) #[true, true, true, true, true, true, true, true, true, true, true, true, true, true, true, true, true, true, true, true, false, false, false] rfl rfl (any_of HT_.out (by kernel_rfl)) (fun _ _ _ h => h) (Or.inl ⟨by rfl, ?_⟩) ?_ ?_
       rotate_left
       ·intro w'
        go_simp
        with_reducible rfl
       rotate_left
       ·simp only [pr_]
        rfl
       refine one_ (i := 20) (N := some 263) #[true, true, true, true, true, true, true, true, true, true, true, true, true, true, true, true, true, true, true, true, true, false, false] rfl rfl (one_of HT_.out (by kernel_rfl)) (by decide) (fun K hK => ?_)
       refine Kd.R_lit_step (Kd.int .u8) _ 5 ?hg (N := 263) ?hd (xs := ([((rd x3_1 x29_2) / 16777216) % 256, ((rd x3_1 x29_2) / 65536) % 256, ((rd x3_1 x29_2) / 256) % 256, (rd x3_1 x29_2) % 256] : List Int)) (inner := [.int .u8 (((rd x3_1 x29_2) / 16777216) % 256), .int .u8 (((rd x3_1 x29_2) / 65536) % 256), .int .u8 (((rd x3_1 x29_2) / 256) % 256), .int .u8 ((rd x3_1 x29_2) % 256)]) (ok := fun _ => True) (okp := fun _ => True) ?hr ?hp (fun _ hk => hk) trivial (Below.refl _ _) (Nat.le_refl _) (by simp) ?_; (case hd => rfl); (case hg => rfl); (case hr => exact gr_); (case hp => exact (Reps.one (show Kd.M (Kd.int .u8) _ _ _ (((rd x3_1 x29_2) / 16777216) % 256) [.int .u8 (((rd x3_1 x29_2) / 16777216) % 256)] from rfl) (Reps.one (show Kd.M (Kd.int .u8) _ _ _ (((rd x3_1 x29_2) / 65536) % 256) [.int .u8 (((rd x3_1 x29_2) / 65536) % 256)] from rfl) (Reps.one (show Kd.M (Kd.int .u8) _ _ _ (((rd x3_1 x29_2) / 256) % 256) [.int .u8 (((rd x3_1 x29_2) / 256) % 256)] from rfl) (Reps.one (show Kd.M (Kd.int .u8) _ _ _ ((rd x3_1 x29_2) % 256) [.int .u8 ((rd x3_1 x29_2) % 256)] from rfl) (Reps.none _ _))))))
       intro v234 w120 ho121 hb hg_ hnew_
       have HS0_ := (hb.cell (World.block_lt_of_cell? _ _ (hHeld.1))).trans (hHeld.1)
       have HS1_ := (hb.cell (World.block_lt_of_cell? _ _ (hHeld.2.1))).trans (hHeld.2.1)
       have HS2_ := (hb.cell (World.block_lt_of_cell? _ _ (hHeld.2.2.1))).trans (hHeld.2.2.1)
       have HS3_ := (hb.cell (World.block_lt_of_cell? _ _ (hHeld.2.2.2))).trans (hHeld.2.2.2)
       clear hg_ hnew_
       (first | rw [← Ny233.out] at ho121 | (simp only [Int.reduceToNat] at ho121; rw [← Ny233.out] at ho121))
       have HO235 := Aside0.mk (Kd.R_lower (Kd.R_new' ho121 (Kd.R_lt (mv_ HO_28.out))) (below_size bl_))
       replace HB := Aside0.mk (below_step bl_ hb)
       replace HO_28 := Aside0.mk (Kd.R_elder' (mv_ HO_28.out) (Kd.R_base ho121) hb)
       replace HO_3 := Aside0.mk (Kd.R_below (mv_ HO_3.out) hb)
       clear hb ho121
       obtain ⟨Ao123, co123, eo123⟩ := Kd.R_slice HO235.out
       (first | subst eo123 | (injection eo123 with f1_ f2_ f3_; have f4_ := f1_.symm; have f5_ := f3_.symm; clear f1_ f2_ f3_; subst f4_; subst f5_))
       refine hK.out _ _ ⟨HS0_, HS1_, HS2_, HS3_⟩ (fun hHeld => ?_)
       clear hK K
       refine norm_ (a' := ?_) ?_ ?_
       rotate_left
       ·show Act.put _ (some 263) _ = _
        simp only [pr_]
        rfl
       refine last_ (i := 21) (N := some 264) #[true, true, true, true, true, true, true, true, true, true, true, true, true, true, true, true, true, true, true, true, true, true, false] rfl rfl (one_of HT_.out (by kernel_rfl)) (by decide) (fun K hK => ?_)
       refine Kd.R_append_rows_step (Kd.int .u8) (w0 := w) w.heap.size (by rfl) (.tmp 243) (.tmp 263) 42 5 (.int .u8 0) 1 rfl Tryd.underlying42 info5 rfl (by decide) (by omega) u28 x28_2 y233 _ _ _ (fun k_ => some k_ ≠ (.slice Ao123 y233.length co123 : Value).ownBlock) (fun _ => False) rfl rfl ?aO ?aR (fun _ _ h => h) (fun _ h => h.elim) ?aF ?aB ?aS ?aL ?_
       (case aR => repeat (first | exact (Kd.R_reads' HO235.out).2.2 | (with_reducible refine Kd.C_alloc ?_ _) | (with_reducible refine Kd.C_drewN ?_ _) | (with_reducible refine Kd.C_drew ?_)))
       (case aB => exact bl_)
       (case aF => exact (fun k_ hk => Kd.fresh' (Kd.R_lt (mv_ HO235.out)) k_ hk))
       (case aO => exact (by refine mv_ ?_; exact Kd.R_mono HO_28.out (fun _ hk => hk.2)))
       (case aS => exact (below_size bl_))
       (case aL => have := LMc118.out; omega)
       intro v237 w122 ho hb hg hat
       rw [← Ny236.out] at ho
       have HO238 := Aside0.mk (ho)
       replace HB := Aside0.mk (hb)
       replace HO235 := Aside0.mk (Kd.R_after (ok := (fun _ => True)) (mv_ HO235.out) hg hat)
       replace HO_3 := Aside0.mk (Kd.R_over' (mv_ HO_3.out) (Kd.R_typed (mv_ HO_28.out)) (by decide) hg)
       clear HO_28
       clear ho hb hg hat
       refine hK.out _ _ ?_
       clear hK K
       refine norm_ (a' := ?_) ?_ ?_
       rotate_left
       ·show Act.put _ (some 264) _ = _
        simp only [pr_]
        rfl
       refine pure_ (i := 22) (N := some 28) (v := ?_) (a' := ?_) #[true, true, true, true, true, true, true, true, true, true, true, true, true, true, true, true, true, true, true, true, true, true, true] rfl rfl (any_of HT_.out (by kernel_rfl)) (fun _ _ _ h => h) (Or.inl ⟨by rfl, ?_⟩) ?_ ?_
       rotate_left
       ·intro w'
        go_simp
        with_reducible rfl
       rotate_left
       ·simp only [pr_]
        rfl
       refine done_ (done_of HT_.out (by kernel_rfl)) ?_
       try go_wp2
       go_roundg k2
       case measure => have := HK1.out; have := HK2.out; omega
       case rel => exact ⟨(y236), (wrap64 (x29_2 + 1)), vq_, H', ⟨by have := HK1.out; have := HK2.out; omega⟩, ⟨by refine mv_ ?_; exact HO_3.out⟩, ⟨by refine mv_ ?_; exact Kd.R_mono HO238.out (fun _ hk => trivial)⟩, ⟨bl_⟩⟩
      ·rw [if_neg c115] at H
       exact absurd H (by simp)
      ⟩
      exact inferInstanceAs _
     rw [if_neg c114] at H
     have c114b0 : decide (x29_2 < 8) = false := decide_eq_false c114
     clear c114
     obtain rfl := Option.some.inj H
     have hcv124 := own_string (P := Tryd.prog) Tryd.underlying42 Tryd.underlying5 Tryd.underlying9 (Kd.own_of_R HO_28.out)
     go_wp2
     go_ret
     exact ⟨er_, bl_⟩
   ⟩
   exact inferInstanceAs _

/-! ### palaverref01_Number: function 47 -/
mutual
def palaverref01_Number.l0 : Nat → Int → Int → Int → Int → Option (ByteArray × Bool)
 | 0, _, _, _, _ => none
 | k + 1, x0, x1, x6, x7 => if x7 < x1 then (palaverref01_Number.l0 k x0 x1 (wrap64 (256 * x6)) (wrap64 (x7 + 1))) else (if x0 < 0 then (palaverref01_Number.j1 k x0 x1 true) else (palaverref01_Number.j1 k x0 x1 (decide (x0 ≥ x6))))
def palaverref01_Number.j1 : Nat → Int → Int → Bool → Option (ByteArray × Bool)
 | 0, _, _, _ => none
 | k + 1, x0, x1, x23 => if x23 = true then (some ((⟨#[]⟩ : ByteArray), false)) else (palaverref01_Number.l1 k x0 x1 (⟨#[]⟩ : ByteArray) 0)
def palaverref01_Number.l1 : Nat → Int → Int → ByteArray → Int → Option (ByteArray × Bool)
 | 0, _, _, _, _ => none
 | k + 1, x0, x1, x8, x9 => if x9 < x1 then ((some (([(Int.tmod x0 256) % 256] : List Int) : List Int)).bind fun y239 => (if (strOfNums y239).size + x8.size ≤ 9223372036854775807 then (palaverref01_Number.l1 k (wrap64 (Int.tdiv x0 256)) x1 ((strOfNums y239) ++ x8) (wrap64 (x9 + 1))) else (none))) else (some (x8, true))
end
def palaverref01_Number.f (k : Nat) (a0 : Int) (a1 : Int) : Option (ByteArray × Bool) := palaverref01_Number.l0 k a0 a1 1 0
theorem palaverref01_Number.mono_l : ∀ k, (∀ y0 y1 y2 y3, LeO (palaverref01_Number.l0 k y0 y1 y2 y3) (palaverref01_Number.l0 (k + 1) y0 y1 y2 y3)) ∧ (∀ y0 y1 y2, LeO (palaverref01_Number.j1 k y0 y1 y2) (palaverref01_Number.j1 (k + 1) y0 y1 y2)) ∧ (∀ y0 y1 y2 y3, LeO (palaverref01_Number.l1 k y0 y1 y2 y3) (palaverref01_Number.l1 (k + 1) y0 y1 y2 y3))
 | 0 => ⟨fun _ _ _ _ r h => by simp [palaverref01_Number.l0] at h, fun _ _ _ r h => by simp [palaverref01_Number.j1] at h, fun _ _ _ _ r h => by simp [palaverref01_Number.l1] at h⟩
 | k + 1 => by
  obtain ⟨ih0, ih1, ih2⟩ := palaverref01_Number.mono_l k
  refine ⟨?_, ?_, ?_⟩ <;> intros <;> (first | unfold palaverref01_Number.l0 | unfold palaverref01_Number.j1 | unfold palaverref01_Number.l1) <;> repeat' first
  | (with_reducible exact ih0 _ _ _ _)
  | (with_reducible exact ih1 _ _ _)
  | (with_reducible exact ih2 _ _ _ _)
  | (with_reducible exact LeO.refl _)
  | (with_reducible exact LeO.none _)
  | (with_reducible refine LeO.ite ?_ ?_)
  | (with_reducible refine LeO.bind ?_ (fun _ => ?_))
  | exact ih0 _ _ _ _
  | exact ih1 _ _ _
  | exact ih2 _ _ _ _
  | exact LeO.none _
  | refine LeO.ite ?_ ?_
  | refine LeO.bind ?_ (fun _ => ?_)
theorem palaverref01_Number.mono : ∀ a0 a1 k, LeO (palaverref01_Number.f k a0 a1) (palaverref01_Number.f (k + 1) a0 a1) := by
 intro a0 a1 k
 obtain ⟨ih0, ih1, ih2⟩ := palaverref01_Number.mono_l k
 unfold palaverref01_Number.f
 repeat' first
  | (with_reducible exact ih0 _ _ _ _)
  | (with_reducible exact ih1 _ _ _)
  | (with_reducible exact ih2 _ _ _ _)
  | (with_reducible exact LeO.refl _)
  | (with_reducible exact LeO.none _)
  | (with_reducible refine LeO.ite ?_ ?_)
  | (with_reducible refine LeO.bind ?_ (fun _ => ?_))
  | exact ih0 _ _ _ _
  | exact ih1 _ _ _
  | exact ih2 _ _ _ _
  | exact LeO.none _
  | refine LeO.ite ?_ ?_
  | refine LeO.bind ?_ (fun _ => ?_)
set_option maxHeartbeats 64000000 in
set_option maxRecDepth 100000 in
theorem palaverref01_Number.calls (k : Nat) (a0 : Int) (a1 : Int) (r1 : ByteArray) (r2 : Bool) (w : World) (h : palaverref01_Number.f k a0 a1 = some (r1, r2)) :
 Calls Tryd.prog 47 #[.int .i64 a0, .int .i64 a1] w fun e w' => e = .returned (.tuple #[.string r1, .bool r2]) ∧ Below w.heap.size w w' := by
 have HB := Aside0.mk (Below.refl w.heap.size w)
 have H : (palaverref01_Number.l0 k a0 a1 1 0) = some (r1, r2) := h
 clear h
 have H' := Aside0.mk H
 clear H
 go_enter Tryd.func47, Tryd.ntmps47
 go_wp2
 go_loopg [6, 7] k (fun kq v6 v7 w' => ∃ (x6_1 : Int) (x7_1 : Int), v6 = .int .i64 x6_1 ∧ v7 = .int .i64 x7_1 ∧ Aside0 (palaverref01_Number.l0 kq a0 a1 x6_1 x7_1 = some (r1, r2)) ∧ Aside0 (kq ≤ k) ∧ Aside0 (Below w.heap.size w w'))
 case atStart => exact ⟨(1), (0), vq_, vq_, H', ⟨Nat.le_refl _⟩, ⟨bl_⟩⟩
 case round =>
  clear H'
  obtain ⟨x6_1, x7_1, rfl, rfl, HA, HK1, HB⟩ := hrel
  cases gk with
  | zero => exact absurd HA.out (by simp [palaverref01_Number.l0])
  | succ k1 =>
   have H := HA.out
   clear HA
   simp only [palaverref01_Number.l0] at H
   by_cases c3 : x7_1 < a1
   ·rw [if_pos c3] at H
    have c3b0 : decide (x7_1 < a1) = true := decide_eq_true c3
    clear c3
    have H' := Aside0.mk H
    clear H
    go_wp2
    go_roundg k1
    case measure => have := HK1.out; omega
    case rel => exact ⟨(wrap64 (256 * x6_1)), (wrap64 (x7_1 + 1)), vq_, vq_, H', ⟨by have := HK1.out; omega⟩, ⟨bl_⟩⟩
   rw [if_neg c3] at H
   have c3b0 : decide (x7_1 < a1) = false := decide_eq_false c3
   clear c3
   have HC4 := Aside0.mk H
   clear H
   go_upto_region 6 with (fail)
   go_cut [23] (fun v23 wc => ∃ (kq : Nat) (x23_3 : Bool), v23 = .bool x23_3 ∧ Aside0 (palaverref01_Number.j1 kq a0 a1 x23_3 = some (r1, r2)) ∧ Aside0 (kq ≤ k1) ∧ Aside0 (Below w.heap.size w wc))
   case first =>
    have H := HC4.out
    clear HC4
    by_cases c5 : a0 < 0
    ·rw [if_pos c5] at H
     have c5b0 : decide (a0 < 0) = true := decide_eq_true c5
     clear c5
     (first | rw [c5b0] | (simp only [i64_w, i32_w]; rw [c5b0]) | skip)
     have H' := Aside0.mk H
     clear H
     go_wp2
     go_meet
     case rel => exact ⟨_, (true), vq_, H', ⟨by have := HK1.out; first | omega | exact Nat.le_refl _⟩, ⟨bl_⟩⟩
    rw [if_neg c5] at H
    have c5b0 : decide (a0 < 0) = false := decide_eq_false c5
    clear c5
    (first | rw [c5b0] | (simp only [i64_w, i32_w]; rw [c5b0]) | skip)
    have H' := Aside0.mk H
    clear H
    go_wp2
    go_meet
    case rel => exact ⟨_, (decide (a0 ≥ x6_1)), vq_, H', ⟨by have := HK1.out; first | omega | exact Nat.le_refl _⟩, ⟨bl_⟩⟩
   case rest =>
    clear HC4
    clear c3b0
    obtain ⟨kq, x23_3, rfl, HA, HJ3, HB⟩ := hcut
    cases kq with
    | zero => exact absurd HA.out (by simp [palaverref01_Number.j1])
    | succ kj3 =>
     have H := HA.out
     clear HA
     simp only [palaverref01_Number.j1] at H
     by_cases c6 : x23_3 = true
     ·subst c6
      have H1 : (some ((⟨#[]⟩ : ByteArray), false)) = some (r1, r2) := by rw [if_pos rfl] at H; exact H
      clear H
      have H := H1
      clear H1
      simp only [Option.some.injEq, Prod.mk.injEq] at H
      obtain ⟨rfl, rfl⟩ := H
      go_wp2
      go_ret2
      exact ⟨er_, bl_⟩
     replace c6 := Bool.eq_false_iff.mpr c6
     subst c6
     have H1 : (palaverref01_Number.l1 kj3 a0 a1 (⟨#[]⟩ : ByteArray) 0) = some (r1, r2) := by rw [if_neg (show ¬ (false = true) by decide)] at H; exact H
     clear H
     have H := H1
     clear H1
     have H' := Aside0.mk H
     clear H
     go_wp2
     go_loopg [0, 8, 9] kj3 (fun kq v0 v8 v9 w' => ∃ (x0_3 : Int) (x8_3 : ByteArray) (x9_3 : Int), v0 = .int .i64 x0_3 ∧ v8 = .string x8_3 ∧ v9 = .int .i64 x9_3 ∧ Aside0 (palaverref01_Number.l1 kq x0_3 a1 x8_3 x9_3 = some (r1, r2)) ∧ Aside0 (kq ≤ kj3) ∧ Aside0 (Below w.heap.size w w'))
     case atStart => exact ⟨(a0), ((⟨#[]⟩ : ByteArray)), (0), vq_, vq_, vq_, H', ⟨Nat.le_refl _⟩, ⟨bl_⟩⟩
     case round =>
      clear H'
      obtain ⟨x0_3, x8_3, x9_3, rfl, rfl, rfl, HA, HK3, HB⟩ := hrel
      cases gk with
      | zero => exact absurd HA.out (by simp [palaverref01_Number.l1])
      | succ k3 =>
       have H := HA.out
       clear HA
       simp only [palaverref01_Number.l1] at H
       by_cases c7 : x9_3 < a1
       ·rw [if_pos c7] at H
        have c7b0 : decide (x9_3 < a1) = true := decide_eq_true c7
        clear c7
        revert H; refine oy_ fun y239 Ny239 => ne_ fun c8 c8b0 c8b1 H => ?_
        try have c8b2 : (9223372036854775807 < (strOfNums y239).size + x8_3.size) = False := eq_false (Nat.not_lt.2 c8)
        have H' := Aside0.mk H
        clear H
        go_wp2_with (first | ((with_reducible refine gate_dst (N := 32) rfl ?_); refine Kd.R_lit (Kd.int .u8) _ 5 ?hg (N := 32) ?hd (xs := ([(Int.tmod x0_3 256) % 256] : List Int)) (inner := [.int .u8 ((Int.tmod x0_3 256) % 256)]) (ok := fun _ => True) (okp := fun _ => True) ?hr ?hp (fun _ hk => hk) trivial (Below.refl _ _) (Nat.le_refl _) (by simp) ?_; (case hd => rfl); (case hg => rfl); (case hr => exact gr_); (case hp => exact (Reps.one (show Kd.M (Kd.int .u8) _ _ _ ((Int.tmod x0_3 256) % 256) [.int .u8 ((Int.tmod x0_3 256) % 256)] from rfl) (Reps.none _ _))); intro v240 w9 ho10 hb hg_ hnew_; clear hg_ hnew_; (first | rw [← Ny239.out] at ho10 | (simp only [Int.reduceToNat] at ho10; rw [← Ny239.out] at ho10)); have HO241 := Aside0.mk (Kd.R_lower ho10 (below_size bl_)); replace HB := Aside0.mk (below_step bl_ hb); clear hb ho10; have hcv11 := own_string (P := Tryd.prog) Tryd.underlying42 Tryd.underlying5 Tryd.underlying9 (Kd.own_of_R HO241.out)))
        go_roundg k3
        case measure => have := HK1.out; have := HJ3.out; have := HK3.out; omega
        case rel => exact ⟨(wrap64 (Int.tdiv x0_3 256)), ((strOfNums y239) ++ x8_3), (wrap64 (x9_3 + 1)), vq_, vq_, vq_, H', ⟨by have := HK1.out; have := HJ3.out; have := HK3.out; omega⟩, ⟨bl_⟩⟩
       rw [if_neg c7] at H
       have c7b0 : decide (x9_3 < a1) = false := decide_eq_false c7
       clear c7
       simp only [Option.some.injEq, Prod.mk.injEq] at H
       obtain ⟨rfl, rfl⟩ := H
       go_wp2
       go_ret2
       exact ⟨er_, bl_⟩

/-! ### palaverref02_Input: function 54 -/
def palaverref02_Input.l0 : Nat → List ByteArray → List Int → Int → Option (ByteArray)
 | 0, _, _, _ => none
 | k + 1, x1, x5, x6 => if x6 < (x1.length : Int) then (if 0 ≤ x6 then ((palaverref01_Number.f k ((rdOf ByteArray.empty x1 x6).size : Int) 4).bind fun bt246 => (if x5.length + bt246.1.size < 140737488355328 then ((some (x5 ++ bytesOf bt246.1 : List Int)).bind fun y248 => (if y248.length + (rdOf ByteArray.empty x1 x6).size < 140737488355328 then (palaverref02_Input.l0 k x1 (y248 ++ bytesOf (rdOf ByteArray.empty x1 x6)) (wrap64 (x6 + 1))) else (none))) else (none))) else (none)) else (some (strOfNums x5))
def palaverref02_Input.f (k : Nat) (a0 : Int) (l1 : List ByteArray) : Option (ByteArray) := palaverref02_Input.l0 k l1 (([(Int.tmod (wrap64 ((Int.tmod a0 256) + 256)) 256) % 256] : List Int)) 0
theorem palaverref02_Input.mono_l : ∀ k, (∀ y0 y1 y2, LeO (palaverref02_Input.l0 k y0 y1 y2) (palaverref02_Input.l0 (k + 1) y0 y1 y2))
 | 0 => fun _ _ _ r h => by simp [palaverref02_Input.l0] at h
 | k + 1 => by
  have ih0 := palaverref02_Input.mono_l k
  ·intro y0 y1 y2
   unfold palaverref02_Input.l0
   repeat' first
   | (with_reducible exact ih0 _ _ _)
   | (with_reducible exact palaverref01_Number.mono _ _ _)
   | (with_reducible exact LeO.refl _)
   | (with_reducible exact LeO.none _)
   | (with_reducible refine LeO.ite ?_ ?_)
   | (with_reducible refine LeO.bind ?_ (fun _ => ?_))
   | exact ih0 _ _ _
   | exact palaverref01_Number.mono _ _ _
   | exact LeO.none _
   | refine LeO.ite ?_ ?_
   | refine LeO.bind ?_ (fun _ => ?_)
theorem palaverref02_Input.mono : ∀ a0 a1 k, LeO (palaverref02_Input.f k a0 a1) (palaverref02_Input.f (k + 1) a0 a1) := by
 intro a0 a1 k
 have ih0 := palaverref02_Input.mono_l k
 unfold palaverref02_Input.f
 repeat' first
  | (with_reducible exact ih0 _ _ _)
  | (with_reducible exact palaverref01_Number.mono _ _ _)
  | (with_reducible exact LeO.refl _)
  | (with_reducible exact LeO.none _)
  | (with_reducible refine LeO.ite ?_ ?_)
  | (with_reducible refine LeO.bind ?_ (fun _ => ?_))
  | exact ih0 _ _ _
  | exact palaverref01_Number.mono _ _ _
  | exact LeO.none _
  | refine LeO.ite ?_ ?_
  | refine LeO.bind ?_ (fun _ => ?_)
set_option maxHeartbeats 64000000 in
set_option maxRecDepth 100000 in
theorem palaverref02_Input.calls (k : Nat) (a0 : Int) (A1 : Option Addr) (c1 : Nat) (l1 : List ByteArray) (r : ByteArray) (w : World) (hr1 : Kd.C Kd.string w A1 l1.length l1) (hc1 : l1.length ≤ c1) (h : palaverref02_Input.f k a0 l1 = some r) :
 Calls Tryd.prog 54 #[.int .i64 a0, .slice A1 l1.length c1] w fun e w' => e = .returned (.string r) ∧ Below w.heap.size w w' := by
 have HR1 := Aside0.mk hr1
 have HC1 := Aside0.mk hc1
 clear hr1 hc1
 have HB := Aside0.mk (Below.refl w.heap.size w)
 have H : (palaverref02_Input.l0 k l1 (([(Int.tmod (wrap64 ((Int.tmod a0 256) + 256)) 256) % 256] : List Int)) 0) = some r := h
 clear h
 generalize e_ : (([(Int.tmod (wrap64 ((Int.tmod a0 256) + 256)) 256) % 256] : List Int) : List Int) = y242 at H
 have Ny242 := Aside0.mk e_.symm
 clear e_
 have H' := Aside0.mk H
 clear H
 go_enter Tryd.func54, Tryd.ntmps54
 go_wp2_with (first | ((with_reducible refine gate_dst (N := 14) rfl ?_); refine Kd.R_lit (Kd.int .u8) _ 5 ?hg (N := 14) ?hd (xs := ([(Int.tmod (wrap64 ((Int.tmod a0 256) + 256)) 256) % 256] : List Int)) (inner := [.int .u8 ((Int.tmod (wrap64 ((Int.tmod a0 256) + 256)) 256) % 256)]) (ok := fun _ => True) (okp := fun _ => True) ?hr ?hp (fun _ hk => hk) trivial (Below.refl _ _) (Nat.le_refl _) (by simp) ?_; (case hd => rfl); (case hg => rfl); (case hr => exact gr_); (case hp => exact (Reps.one (show Kd.M (Kd.int .u8) _ _ _ ((Int.tmod (wrap64 ((Int.tmod a0 256) + 256)) 256) % 256) [.int .u8 ((Int.tmod (wrap64 ((Int.tmod a0 256) + 256)) 256) % 256)] from rfl) (Reps.none _ _))); intro v243 w3 ho4 hb hg_ hnew_; clear hg_ hnew_; (first | rw [← Ny242.out] at ho4 | (simp only [Int.reduceToNat] at ho4; rw [← Ny242.out] at ho4)); have HO244 := Aside0.mk (Kd.R_lower ho4 (below_size bl_)); replace HB := Aside0.mk (below_step bl_ hb); clear hb ho4))
 go_loopg [5, 6] k (fun kq v5 v6 w' => ∃ (x5_1 : List Int) (x6_1 : Int), v6 = .int .i64 x6_1 ∧ Aside0 (palaverref02_Input.l0 kq l1 x5_1 x6_1 = some r) ∧ Aside0 (kq ≤ k) ∧ Aside0 (Kd.R (Kd.int .u8) 5 w' w.heap.size (fun _ => True) v5 x5_1) ∧ Aside0 (Below w.heap.size w w'))
 case atStart => exact ⟨(y242), (0), vq_, H', ⟨Nat.le_refl _⟩, ⟨mv_ HO244.out⟩, ⟨bl_⟩⟩
 case round =>
  clear H'
  obtain ⟨x5_1, x6_1, rfl, HA, HK1, HO_5, HB⟩ := hrel
  cases gk with
  | zero => exact absurd HA.out (by simp [palaverref02_Input.l0])
  | succ k1 =>
   have H := HA.out
   clear HA
   simp only [palaverref02_Input.l0] at H
   by_cases c5 : x6_1 < (l1.length : Int)
   ·rw [if_pos c5] at H
    have c5b0 : decide (x6_1 < (l1.length : Int)) = true := decide_eq_true c5
    clear c5
    revert H; refine nd_ fun c6 c6b0 H => ?_
    clear c6
    replace H := ob_ H
    obtain ⟨⟨t246, t247⟩, A70, H⟩ := H
    replace H : (if x5_1.length + t246.size < 140737488355328 then ((some (x5_1 ++ bytesOf t246 : List Int)).bind fun y248 => (if y248.length + (rdOf ByteArray.empty l1 x6_1).size < 140737488355328 then (palaverref02_Input.l0 k1 l1 (y248 ++ bytesOf (rdOf ByteArray.empty l1 x6_1)) (wrap64 (x6_1 + 1))) else (none))) else (none)) = some r := H
    have A7 := Aside0.mk A70
    clear A70
    revert H; refine nc_ fun c8 => oy_ fun y248 Ny248 => nc_ fun c9 H => ?_
    have LMc8 := Aside0.mk c8
    have LMc9 := Aside0.mk c9
    clear c8 c9
    generalize e_ : (y248 ++ bytesOf (rdOf ByteArray.empty l1 x6_1) : List Int) = y252 at H
    have Ny252 := Aside0.mk e_.symm
    clear e_
    have H' := Aside0.mk H
    clear H
    have p245 : 0 ≤ (x6_1 : Int) := ae_
    have q245 : x6_1 < (l1.length : Int) := ae_
    obtain ⟨ad245, e245, hx245_0⟩ := Kd.at_string HR1.out x6_1 p245 q245
    cases e245
    replace hx245_0 := (HB.out.cell (World.block_lt_of_cell? w _ hx245_0)).trans hx245_0
    replace p245 := eq_true p245
    replace q245 := eq_true q245
    go_wp2_with (first | ((with_reducible refine gate_callee (f := 47) rfl ?_); refine gL_ 27 Tryd.func47 #[.int .i64 ((rdOf ByteArray.empty l1 x6_1).size : Int), .int .i64 4] ?_; (with_reducible refine (palaverref01_Number.calls k1 ((rdOf ByteArray.empty l1 x6_1).size : Int) 4 t246 t247 _ A7.out).mono ?_); rintro e w10 ⟨rfl, hb⟩; refine ⟨_, rfl, ?_⟩; replace HB := Aside0.mk (below_step bl_ hb); replace HO_5 := Aside0.mk (Kd.R_below (mv_ HO_5.out) hb); clear hb) | (at_builtin; refine print_append_str (w0 := w) w.heap.size rfl (.tmp 30) _ 42 9 5 rfl Tryd.underlying42 Tryd.underlying9 info5 u5 x5_1 t246 rfl rfl ?aO ?aB ?aS ?aL ?_; (case aB => exact bl_); (case aO => exact (Kd.own_of_R (mv_ HO_5.out))); (case aS => exact (below_size bl_)); (case aL => have := LMc8.out; omega); intro v249 w11 ho0 hb hg; have ho := Kd.R_of_own (h1 := fun _ => rfl) (ok := fun _ => True) ho0 (fun _ _ => trivial); clear ho0; have hat := True.intro; rw [← Ny248.out] at ho; change Kd.R (Kd.int .u8) 5 w11 w.heap.size (fun _ => True) v249 y248 at ho; have HO250 := Aside0.mk (ho); replace HB := Aside0.mk (hb); clear HO_5; clear ho hb hg hat; have p251 : 0 ≤ (x6_1 : Int) := ae_; have q251 : x6_1 < (l1.length : Int) := ae_; obtain ⟨ad251, e251, hx251_0⟩ := Kd.at_string HR1.out x6_1 p251 q251; obtain rfl : ad245 = ad251 := (by injection e251); replace hx251_0 := (HB.out.cell (World.block_lt_of_cell? w _ hx251_0)).trans hx251_0; replace p251 := eq_true p251; replace q251 := eq_true q251) | (at_builtin; refine print_append_str (w0 := w) w.heap.size rfl (.tmp 33) _ 42 9 5 rfl Tryd.underlying42 Tryd.underlying9 info5 v249 y248 (rdOf ByteArray.empty l1 x6_1) rfl rfl ?aO ?aB ?aS ?aL ?_; (case aB => exact bl_); (case aO => exact (Kd.own_of_R (mv_ HO250.out))); (case aS => exact (below_size bl_)); (case aL => have := LMc9.out; omega); intro v253 w12 ho0 hb hg; have ho := Kd.R_of_own (h1 := fun _ => rfl) (ok := fun _ => True) ho0 (fun _ _ => trivial); clear ho0; have hat := True.intro; rw [← Ny252.out] at ho; change Kd.R (Kd.int .u8) 5 w12 w.heap.size (fun _ => True) v253 y252 at ho; have HO254 := Aside0.mk (ho); replace HB := Aside0.mk (hb); clear HO250; clear ho hb hg hat))
    go_roundg k1
    case measure => have := HK1.out; omega
    case rel => exact ⟨(y252), (wrap64 (x6_1 + 1)), vq_, H', ⟨by have := HK1.out; omega⟩, ⟨mv_ HO254.out⟩, ⟨bl_⟩⟩
   rw [if_neg c5] at H
   have c5b0 : decide (x6_1 < (l1.length : Int)) = false := decide_eq_false c5
   clear c5
   obtain rfl := Option.some.inj H
   have hcv13 := own_string (P := Tryd.prog) Tryd.underlying42 Tryd.underlying5 Tryd.underlying9 (Kd.own_of_R HO_5.out)
   go_wp2
   go_ret
   exact ⟨er_, bl_⟩

/-! ### palaverref02_Tag: function 37 -/
def palaverref02_Tag.f (k : Nat) (a0 : Int) (l1 : List ByteArray) : Option (ByteArray) := (palaverref02_Input.f k a0 l1).bind fun t255 => ((palaverref02_Sum.f k t255).bind fun t256 => (some t256))
theorem palaverref02_Tag.mono : ∀ a0 a1 k, LeO (palaverref02_Tag.f k a0 a1) (palaverref02_Tag.f (k + 1) a0 a1) := by
 intro a0 a1 k
 unfold palaverref02_Tag.f
 repeat' first
  | (with_reducible exact palaverref02_Input.mono _ _ _)
  | (with_reducible exact palaverref02_Sum.mono _ _)
  | (with_reducible exact LeO.refl _)
  | (with_reducible exact LeO.none _)
  | (with_reducible refine LeO.ite ?_ ?_)
  | (with_reducible refine LeO.bind ?_ (fun _ => ?_))
  | exact palaverref02_Input.mono _ _ _
  | exact palaverref02_Sum.mono _ _
  | exact LeO.none _
  | refine LeO.ite ?_ ?_
  | refine LeO.bind ?_ (fun _ => ?_)
set_option maxHeartbeats 64000000 in
set_option maxRecDepth 100000 in
theorem palaverref02_Tag.calls (k : Nat) (a0 : Int) (A1 : Option Addr) (c1 : Nat) (l1 : List ByteArray) (r : ByteArray) (w : World) (hr1 : Kd.C Kd.string w A1 l1.length l1) (hc1 : l1.length ≤ c1) (h : palaverref02_Tag.f k a0 l1 = some r) :
 Calls Tryd.prog 37 #[.int .i64 a0, .slice A1 l1.length c1] w fun e w' => e = .returned (.string r) ∧ Below w.heap.size w w' := by
 have HR1 := Aside0.mk hr1
 have HC1 := Aside0.mk hc1
 clear hr1 hc1
 have HB := Aside0.mk (Below.refl w.heap.size w)
 have H : ((palaverref02_Input.f k a0 l1).bind fun t255 => ((palaverref02_Sum.f k t255).bind fun t256 => (some t256))) = some r := h
 clear h
 revert H; refine oa_ fun t255 A3 => oa_ fun t256 A4 H => ?_
 obtain rfl := Option.some.inj H
 go_enter Tryd.func37, Tryd.ntmps37
 go_wp2_with (first | ((with_reducible refine gate_callee (f := 54) rfl ?_); refine gL_ 7 Tryd.func54 #[.int .i64 a0, .slice A1 l1.length c1] ?_; (with_reducible refine (palaverref02_Input.calls k a0 _ _ l1 t255 _ ?side1 ?side2 A3.out).mono ?_); (case side1 => repeat (first | exact HR1.out | (with_reducible refine Kd.C_alloc ?_ _) | (with_reducible refine Kd.C_drewN ?_ _) | (with_reducible refine Kd.C_drew ?_))); (case side2 => exact HC1.out); rintro e w5 ⟨rfl, hb⟩; refine ⟨_, rfl, ?_⟩; replace HB := Aside0.mk (below_step bl_ hb); clear hb) | ((with_reducible refine gate_callee (f := 53) rfl ?_); refine gL_ 8 Tryd.func53 #[.string t255] ?_; (with_reducible refine (palaverref02_Sum.calls k t255 t256 _ A4.out).mono ?_); rintro e w6 ⟨rfl, hb⟩; refine ⟨_, rfl, ?_⟩; replace HB := Aside0.mk (below_step bl_ hb); clear hb))
 go_ret
 exact ⟨er_, bl_⟩

/-! ### palaverref06_Id: function 21 -/
def palaverref06_Id.f (k : Nat) (a0 : ByteArray) : Option (ByteArray) := (palaverref02_Tag.f k 7 (([a0] : List ByteArray))).bind fun t260 => (some t260)
theorem palaverref06_Id.mono : ∀ a0 k, LeO (palaverref06_Id.f k a0) (palaverref06_Id.f (k + 1) a0) := by
 intro a0 k
 unfold palaverref06_Id.f
 repeat' first
  | (with_reducible exact palaverref02_Tag.mono _ _ _)
  | (with_reducible exact LeO.refl _)
  | (with_reducible exact LeO.none _)
  | (with_reducible refine LeO.ite ?_ ?_)
  | (with_reducible refine LeO.bind ?_ (fun _ => ?_))
  | exact palaverref02_Tag.mono _ _ _
  | exact LeO.none _
  | refine LeO.ite ?_ ?_
  | refine LeO.bind ?_ (fun _ => ?_)
set_option maxHeartbeats 64000000 in
set_option maxRecDepth 100000 in
theorem palaverref06_Id.calls (k : Nat) (a0 : ByteArray) (r : ByteArray) (w : World) (h : palaverref06_Id.f k a0 = some r) :
 Calls Tryd.prog 21 #[.string a0] w fun e w' => e = .returned (.string r) ∧ Below w.heap.size w w' := by
 have HB := Aside0.mk (Below.refl w.heap.size w)
 have H : ((palaverref02_Tag.f k 7 (([a0] : List ByteArray))).bind fun t260 => (some t260)) = some r := h
 clear h
 generalize e_ : (([a0] : List ByteArray) : List ByteArray) = y257 at H
 have Ny257 := Aside0.mk e_.symm
 clear e_
 revert H; refine oa_ fun t260 A2 H => ?_
 obtain rfl := Option.some.inj H
 go_enter Tryd.func21, Tryd.ntmps21
 go_wp2_with (first | ((with_reducible refine gate_dst (N := 4) rfl ?_); refine Kd.R_lit Kd.string _ 9 ?hg (N := 4) ?hd (xs := ([a0] : List ByteArray)) (inner := [.string a0]) (ok := fun _ => True) (okp := fun _ => True) ?hr ?hp (fun _ hk => hk) trivial (Below.refl _ _) (Nat.le_refl _) (by simp) ?_; (case hd => rfl); (case hg => rfl); (case hr => exact gr_); (case hp => exact (Reps.one (show Kd.M Kd.string _ _ _ a0 [.string a0] from rfl) (Reps.none _ _))); intro v258 w3 ho4 hb hg_ hnew_; clear hg_ hnew_; (first | rw [← Ny257.out] at ho4 | (simp only [Int.reduceToNat] at ho4; rw [← Ny257.out] at ho4)); have HO259 := Aside0.mk (Kd.R_lower ho4 (below_size bl_)); replace HB := Aside0.mk (below_step bl_ hb); clear hb ho4; obtain ⟨Ao5, co5, eo5⟩ := Kd.R_slice HO259.out; subst eo5) | ((with_reducible refine gate_callee (f := 37) rfl ?_); refine gL_ 5 Tryd.func37 #[.int .i64 7, .slice Ao5 y257.length co5] ?_; (with_reducible refine (palaverref02_Tag.calls k 7 _ _ y257 t260 _ ?side1 ?side2 A2.out).mono ?_); (case side1 => repeat (first | exact (Kd.R_reads' HO259.out).2.2 | (with_reducible refine Kd.C_alloc ?_ _) | (with_reducible refine Kd.C_drewN ?_ _) | (with_reducible refine Kd.C_drew ?_))); (case side2 => exact (Kd.R_reads' HO259.out).2.1); rintro e w6 ⟨rfl, hb⟩; refine ⟨_, rfl, ?_⟩; replace HB := Aside0.mk (below_step bl_ hb); replace HO259 := Aside0.mk (Kd.R_below (mv_ HO259.out) hb); clear hb))
 go_ret
 exact ⟨er_, bl_⟩

/-! ### palaverlaw06_awake: function 10 -/
def palaverlaw06_awake.l0 : Nat → ByteArray → Option (Bool)
 | 0, _ => none
 | k + 1, x1 => if (x1.size : Int) < 32 then (if x1.size + 1 ≤ 9223372036854775807 then (palaverlaw06_awake.l0 k (x1 ++ (⟨#[97]⟩ : ByteArray))) else (none)) else ((event_Encode.f k 1 x1 ([] : List ByteArray) (⟨#[114]⟩ : ByteArray) (⟨#[]⟩ : ByteArray)).bind fun bt261 => (if bt261.2 = 0 then (if 3 + x1.size ≤ 9223372036854775807 then (if ((⟨#[1, 0, 32]⟩ : ByteArray) ++ x1).size + 6 ≤ 9223372036854775807 then (if bt261.1.toList = (((⟨#[1, 0, 32]⟩ : ByteArray) ++ x1) ++ (⟨#[0, 0, 1, 114, 0, 0]⟩ : ByteArray)).toList then ((event_Id.f k (⟨#[120]⟩ : ByteArray)).bind fun t263 => ((palaverref06_Id.f k (⟨#[120]⟩ : ByteArray)).bind fun t264 => (some (t263.toList == t264.toList)))) else (some false)) else (none)) else (none)) else (some false)))
def palaverlaw06_awake.f (k : Nat)  : Option (Bool) := palaverlaw06_awake.l0 k (⟨#[]⟩ : ByteArray)
theorem palaverlaw06_awake.mono_l : ∀ k, (∀ y0, LeO (palaverlaw06_awake.l0 k y0) (palaverlaw06_awake.l0 (k + 1) y0))
 | 0 => fun _ r h => by simp [palaverlaw06_awake.l0] at h
 | k + 1 => by
  have ih0 := palaverlaw06_awake.mono_l k
  ·intro y0
   unfold palaverlaw06_awake.l0
   repeat' first
   | (with_reducible exact ih0 _)
   | (with_reducible exact event_Encode.mono _ _ _ _ _ _)
   | (with_reducible exact event_Id.mono _ _)
   | (with_reducible exact palaverref06_Id.mono _ _)
   | (with_reducible exact LeO.refl _)
   | (with_reducible exact LeO.none _)
   | (with_reducible refine LeO.ite ?_ ?_)
   | (with_reducible refine LeO.bind ?_ (fun _ => ?_))
   | exact ih0 _
   | exact event_Encode.mono _ _ _ _ _ _
   | exact event_Id.mono _ _
   | exact palaverref06_Id.mono _ _
   | exact LeO.none _
   | refine LeO.ite ?_ ?_
   | refine LeO.bind ?_ (fun _ => ?_)
theorem palaverlaw06_awake.mono : ∀ k, LeO (palaverlaw06_awake.f k ) (palaverlaw06_awake.f (k + 1) ) := by
 intro  k
 have ih0 := palaverlaw06_awake.mono_l k
 unfold palaverlaw06_awake.f
 repeat' first
  | (with_reducible exact ih0 _)
  | (with_reducible exact event_Encode.mono _ _ _ _ _ _)
  | (with_reducible exact event_Id.mono _ _)
  | (with_reducible exact palaverref06_Id.mono _ _)
  | (with_reducible exact LeO.refl _)
  | (with_reducible exact LeO.none _)
  | (with_reducible refine LeO.ite ?_ ?_)
  | (with_reducible refine LeO.bind ?_ (fun _ => ?_))
  | exact ih0 _
  | exact event_Encode.mono _ _ _ _ _ _
  | exact event_Id.mono _ _
  | exact palaverref06_Id.mono _ _
  | exact LeO.none _
  | refine LeO.ite ?_ ?_
  | refine LeO.bind ?_ (fun _ => ?_)
set_option maxHeartbeats 64000000 in
set_option maxRecDepth 100000 in
theorem palaverlaw06_awake.calls (k : Nat)  (r : Bool) (w : World) (hrG : Kd.C (Kd.int .u32) w (some ⟨0, 0, none⟩) keysL.length keysL) (h : palaverlaw06_awake.f k  = some r) :
 Calls Tryd.prog 10 #[] w fun e w' => e = .returned (.bool r) ∧ Below w.heap.size w w' := by
 have hu24 := Tryd.underlying24
 have HRG := Aside0.mk hrG
 clear hrG
 have HB := Aside0.mk (Below.refl w.heap.size w)
 have H : (palaverlaw06_awake.l0 k (⟨#[]⟩ : ByteArray)) = some r := h
 clear h
 have H' := Aside0.mk H
 clear H
 go_enter Tryd.func10, Tryd.ntmps10
 go_wp2
 go_loopg [1] k (fun kq v1 w' => ∃ (x1_1 : ByteArray), v1 = .string x1_1 ∧ Aside0 (palaverlaw06_awake.l0 kq x1_1 = some r) ∧ Aside0 (kq ≤ k) ∧ Aside0 (Below w.heap.size w w'))
 case atStart => exact ⟨((⟨#[]⟩ : ByteArray)), vq_, H', ⟨Nat.le_refl _⟩, ⟨bl_⟩⟩
 case round =>
  clear H'
  obtain ⟨x1_1, rfl, HA, HK1, HB⟩ := hrel
  cases gk with
  | zero => exact absurd HA.out (by simp [palaverlaw06_awake.l0])
  | succ k1 =>
   have H := HA.out
   clear HA
   simp only [palaverlaw06_awake.l0] at H
   by_cases c1 : (x1_1.size : Int) < 32
   ·rw [if_pos c1] at H
    have c1b0 : decide ((x1_1.size : Int) < 32) = true := decide_eq_true c1
    have c1b1 : decide (x1_1.size < 32) = true := decide_eq_true (by omega)
    clear c1
    revert H; refine ne_ fun c2 c2b0 c2b1 H => ?_
    try have c2b2 : (9223372036854775807 < x1_1.size + 1) = False := eq_false (Nat.not_lt.2 c2)
    have H' := Aside0.mk H
    clear H
    go_wp2
    go_roundg k1
    case measure => have := HK1.out; omega
    case rel => exact ⟨(x1_1 ++ (⟨#[97]⟩ : ByteArray)), vq_, H', ⟨by have := HK1.out; omega⟩, ⟨bl_⟩⟩
   rw [if_neg c1] at H
   have c1b0 : decide ((x1_1.size : Int) < 32) = false := decide_eq_false c1
   have c1b1 : decide (x1_1.size < 32) = false := decide_eq_false (by omega)
   clear c1
   replace H := ob_ H
   obtain ⟨⟨t261, t262⟩, A30, H⟩ := H
   replace H : (if t262 = 0 then (if 3 + x1_1.size ≤ 9223372036854775807 then (if ((⟨#[1, 0, 32]⟩ : ByteArray) ++ x1_1).size + 6 ≤ 9223372036854775807 then (if t261.toList = (((⟨#[1, 0, 32]⟩ : ByteArray) ++ x1_1) ++ (⟨#[0, 0, 1, 114, 0, 0]⟩ : ByteArray)).toList then ((event_Id.f k1 (⟨#[120]⟩ : ByteArray)).bind fun t263 => ((palaverref06_Id.f k1 (⟨#[120]⟩ : ByteArray)).bind fun t264 => (some (t263.toList == t264.toList)))) else (some false)) else (none)) else (none)) else (some false)) = some r := H
   have A3 := Aside0.mk A30
   clear A30
   by_cases c4 : t262 = 0
   ·rw [if_pos c4] at H
    have c4b0 : (t262 == 0) = true := beq_iff_eq.mpr c4
    have c4b1 : (t262 != 0) = false := bne_eq_false_iff_eq.mpr c4
    clear c4
    revert H; refine ne_ fun c5 c5b0 c5b1 => ne_ fun c6 c6b0 c6b1 H => ?_
    try have c5b2 : (9223372036854775807 < 3 + x1_1.size) = False := eq_false (Nat.not_lt.2 c5)
    try have c6b2 : (9223372036854775807 < ((⟨#[1, 0, 32]⟩ : ByteArray) ++ x1_1).size + 6) = False := eq_false (Nat.not_lt.2 c6)
    try have c6b3 : (9223372036854775807 < 3 + x1_1.size + 6) = False := eq_false (Nat.not_lt.2 (by rw [ByteArray.size_append] at c6; exact c6))
    by_cases c7 : t261.toList = (((⟨#[1, 0, 32]⟩ : ByteArray) ++ x1_1) ++ (⟨#[0, 0, 1, 114, 0, 0]⟩ : ByteArray)).toList
    ·rw [if_pos c7] at H
     have c7b0 : (t261.toList == (((⟨#[1, 0, 32]⟩ : ByteArray) ++ x1_1) ++ (⟨#[0, 0, 1, 114, 0, 0]⟩ : ByteArray)).toList) = true := beq_iff_eq.mpr c7
     have c7b1 : (t261.toList != (((⟨#[1, 0, 32]⟩ : ByteArray) ++ x1_1) ++ (⟨#[0, 0, 1, 114, 0, 0]⟩ : ByteArray)).toList) = false := bne_eq_false_iff_eq.mpr c7
     clear c7
     revert H; refine oa_ fun t263 A8 => oa_ fun t264 A9 H => ?_
     obtain rfl := Option.some.inj H
     go_wp2_with (first | ((with_reducible refine gate_callee (f := 11) rfl ?_); refine gL_ 12 Tryd.func11 #[.agg #[.int .i64 1, .string x1_1, .slice none 0 0, .string (⟨#[114]⟩ : ByteArray), .string ⟨#[]⟩]] ?_; (refine (event_Encode.calls k1 1 x1_1 _ _ ([] : List ByteArray) (⟨#[114]⟩ : ByteArray) (⟨#[]⟩ : ByteArray) t261 t262 _ ?side1 ?side2 A3.out).mono ?_); (case side1 => exact Kd.C_nil _ _); (case side2 => exact Nat.le_refl _); rintro e w10 ⟨rfl, hb⟩; refine ⟨_, rfl, ?_⟩; replace HB := Aside0.mk (below_step bl_ hb); clear hb) | (go_at_call 20; (with_reducible refine (event_Id.calls k1 (⟨#[120]⟩ : ByteArray) t263 _ ?side1 A8.out).mono ?_); (case side1 => repeat (first | exact (Kd.C_below HRG.out HB.out) | (with_reducible refine Kd.C_alloc ?_ _) | (with_reducible refine Kd.C_drewN ?_ _) | (with_reducible refine Kd.C_drew ?_))); rintro e w11 ⟨rfl, hb⟩; replace HB := Aside0.mk (below_step bl_ hb); clear hb) | (go_at_call 21; (with_reducible refine (palaverref06_Id.calls k1 (⟨#[120]⟩ : ByteArray) t264 _ A9.out).mono ?_); rintro e w12 ⟨rfl, hb⟩; replace HB := Aside0.mk (below_step bl_ hb); clear hb))
     go_ret
     exact ⟨er_, bl_⟩
    rw [if_neg c7] at H
    have c7b0 : (t261.toList == (((⟨#[1, 0, 32]⟩ : ByteArray) ++ x1_1) ++ (⟨#[0, 0, 1, 114, 0, 0]⟩ : ByteArray)).toList) = false := beq_eq_false_iff_ne.mpr c7
    have c7b1 : (t261.toList != (((⟨#[1, 0, 32]⟩ : ByteArray) ++ x1_1) ++ (⟨#[0, 0, 1, 114, 0, 0]⟩ : ByteArray)).toList) = true := bne_iff_ne.mpr c7
    obtain rfl := Option.some.inj H
    go_wp2_with (first | ((with_reducible refine gate_callee (f := 11) rfl ?_); refine gL_ 12 Tryd.func11 #[.agg #[.int .i64 1, .string x1_1, .slice none 0 0, .string (⟨#[114]⟩ : ByteArray), .string ⟨#[]⟩]] ?_; (refine (event_Encode.calls k1 1 x1_1 _ _ ([] : List ByteArray) (⟨#[114]⟩ : ByteArray) (⟨#[]⟩ : ByteArray) t261 t262 _ ?side1 ?side2 A3.out).mono ?_); (case side1 => exact Kd.C_nil _ _); (case side2 => exact Nat.le_refl _); rintro e w13 ⟨rfl, hb⟩; refine ⟨_, rfl, ?_⟩; replace HB := Aside0.mk (below_step bl_ hb); clear hb))
    go_ret
    exact ⟨er_, bl_⟩
   rw [if_neg c4] at H
   have c4b0 : (t262 == 0) = false := beq_eq_false_iff_ne.mpr c4
   have c4b1 : (t262 != 0) = true := bne_iff_ne.mpr c4
   obtain rfl := Option.some.inj H
   go_wp2_with (first | ((with_reducible refine gate_callee (f := 11) rfl ?_); refine gL_ 12 Tryd.func11 #[.agg #[.int .i64 1, .string x1_1, .slice none 0 0, .string (⟨#[114]⟩ : ByteArray), .string ⟨#[]⟩]] ?_; (refine (event_Encode.calls k1 1 x1_1 _ _ ([] : List ByteArray) (⟨#[114]⟩ : ByteArray) (⟨#[]⟩ : ByteArray) t261 t262 _ ?side1 ?side2 A3.out).mono ?_); (case side1 => exact Kd.C_nil _ _); (case side2 => exact Nat.le_refl _); rintro e w14 ⟨rfl, hb⟩; refine ⟨_, rfl, ?_⟩; replace HB := Aside0.mk (below_step bl_ hb); clear hb))
   go_ret
   exact ⟨er_, bl_⟩

/-! ### palaverref06_Right: function 14 -/
mutual
def palaverref06_Right.j0 : Nat → Bool → Int → ByteArray → List ByteArray → ByteArray → ByteArray → Option (Bool)
 | 0, _, _, _, _, _, _ => none
 | k + 1, x35, x266000, x266001, x266002, x266003, x266004 => if x35 = true then (some false) else (if ((x266000 == 1) != ((x266002.length : Int) == 0)) = true then (palaverref06_Right.j1 k true x266000 x266001 x266002 x266003 x266004) else (if x266000 = 4 then (palaverref06_Right.j1 k ((x266003.size : Int) != 32) x266000 x266001 x266002 x266003 x266004) else (if x266000 = 5 then (palaverref06_Right.j1 k ((x266003.size : Int) != 32) x266000 x266001 x266002 x266003 x266004) else (palaverref06_Right.j1 k false x266000 x266001 x266002 x266003 x266004))))
def palaverref06_Right.j1 : Nat → Bool → Int → ByteArray → List ByteArray → ByteArray → ByteArray → Option (Bool)
 | 0, _, _, _, _, _, _ => none
 | k + 1, x59, x266000, x266001, x266002, x266003, x266004 => if x59 = true then (some false) else (palaverref06_Right.l0 k 0 x266000 x266001 x266002 x266003 x266004)
def palaverref06_Right.l0 : Nat → Int → Int → ByteArray → List ByteArray → ByteArray → ByteArray → Option (Bool)
 | 0, _, _, _, _, _, _ => none
 | k + 1, x3, x266000, x266001, x266002, x266003, x266004 => if x3 < (x266002.length : Int) then (if 0 ≤ x3 then (if ((rdOf ByteArray.empty x266002 x3).size : Int) = 32 then (if x3 > 0 then (if 0 ≤ (wrap64 (x3 - 1)) then (if (wrap64 (x3 - 1)) < (x266002.length : Int) then (if ((Op.bytesLess ((rdOf ByteArray.empty x266002 (wrap64 (x3 - 1))).toList) ((rdOf ByteArray.empty x266002 x3).toList)) = true) then (palaverref06_Right.l0 k (wrap64 (x3 + 1)) x266000 x266001 x266002 x266003 x266004) else (some false)) else (none)) else (none)) else (palaverref06_Right.l0 k (wrap64 (x3 + 1)) x266000 x266001 x266002 x266003 x266004)) else (some false)) else (none)) else (some true)
end
def palaverref06_Right.f (k : Nat) (a0_0 : Int) (a0_1 : ByteArray) (l0_2 : List ByteArray) (a0_3 : ByteArray) (a0_4 : ByteArray) : Option (Bool) := if a0_0 < 1 then (palaverref06_Right.j0 k true a0_0 a0_1 l0_2 a0_3 a0_4) else (if a0_0 > 5 then (palaverref06_Right.j0 k true a0_0 a0_1 l0_2 a0_3 a0_4) else (if (a0_1.size : Int) = 32 then (if (l0_2.length : Int) > 8 then (palaverref06_Right.j0 k true a0_0 a0_1 l0_2 a0_3 a0_4) else (if (a0_3.size : Int) > 200 then (palaverref06_Right.j0 k true a0_0 a0_1 l0_2 a0_3 a0_4) else (palaverref06_Right.j0 k (decide ((a0_4.size : Int) > 65535)) a0_0 a0_1 l0_2 a0_3 a0_4))) else (palaverref06_Right.j0 k true a0_0 a0_1 l0_2 a0_3 a0_4)))
theorem palaverref06_Right.mono_l : ∀ k, (∀ y0 y1 y2 y3 y4 y5, LeO (palaverref06_Right.j0 k y0 y1 y2 y3 y4 y5) (palaverref06_Right.j0 (k + 1) y0 y1 y2 y3 y4 y5)) ∧ (∀ y0 y1 y2 y3 y4 y5, LeO (palaverref06_Right.j1 k y0 y1 y2 y3 y4 y5) (palaverref06_Right.j1 (k + 1) y0 y1 y2 y3 y4 y5)) ∧ (∀ y0 y1 y2 y3 y4 y5, LeO (palaverref06_Right.l0 k y0 y1 y2 y3 y4 y5) (palaverref06_Right.l0 (k + 1) y0 y1 y2 y3 y4 y5))
 | 0 => ⟨fun _ _ _ _ _ _ r h => by simp [palaverref06_Right.j0] at h, fun _ _ _ _ _ _ r h => by simp [palaverref06_Right.j1] at h, fun _ _ _ _ _ _ r h => by simp [palaverref06_Right.l0] at h⟩
 | k + 1 => by
  obtain ⟨ih0, ih1, ih2⟩ := palaverref06_Right.mono_l k
  refine ⟨?_, ?_, ?_⟩ <;> intros <;> (first | unfold palaverref06_Right.j0 | unfold palaverref06_Right.j1 | unfold palaverref06_Right.l0) <;> repeat' first
  | (with_reducible exact ih0 _ _ _ _ _ _)
  | (with_reducible exact ih1 _ _ _ _ _ _)
  | (with_reducible exact ih2 _ _ _ _ _ _)
  | (with_reducible exact LeO.refl _)
  | (with_reducible exact LeO.none _)
  | (with_reducible refine LeO.ite ?_ ?_)
  | (with_reducible refine LeO.bind ?_ (fun _ => ?_))
  | exact ih0 _ _ _ _ _ _
  | exact ih1 _ _ _ _ _ _
  | exact ih2 _ _ _ _ _ _
  | exact LeO.none _
  | refine LeO.ite ?_ ?_
  | refine LeO.bind ?_ (fun _ => ?_)
theorem palaverref06_Right.mono : ∀ a0 a1 a2 a3 a4 k, LeO (palaverref06_Right.f k a0 a1 a2 a3 a4) (palaverref06_Right.f (k + 1) a0 a1 a2 a3 a4) := by
 intro a0 a1 a2 a3 a4 k
 obtain ⟨ih0, ih1, ih2⟩ := palaverref06_Right.mono_l k
 unfold palaverref06_Right.f
 repeat' first
  | (with_reducible exact ih0 _ _ _ _ _ _)
  | (with_reducible exact ih1 _ _ _ _ _ _)
  | (with_reducible exact ih2 _ _ _ _ _ _)
  | (with_reducible exact LeO.refl _)
  | (with_reducible exact LeO.none _)
  | (with_reducible refine LeO.ite ?_ ?_)
  | (with_reducible refine LeO.bind ?_ (fun _ => ?_))
  | exact ih0 _ _ _ _ _ _
  | exact ih1 _ _ _ _ _ _
  | exact ih2 _ _ _ _ _ _
  | exact LeO.none _
  | refine LeO.ite ?_ ?_
  | refine LeO.bind ?_ (fun _ => ?_)
set_option maxHeartbeats 64000000 in
set_option maxRecDepth 100000 in
theorem palaverref06_Right.calls (k : Nat) (a0_0 : Int) (a0_1 : ByteArray) (A0_2 : Option Addr) (c0_2 : Nat) (l0_2 : List ByteArray) (a0_3 : ByteArray) (a0_4 : ByteArray) (r : Bool) (w : World) (hr0_2 : Kd.C Kd.string w A0_2 l0_2.length l0_2) (hc0_2 : l0_2.length ≤ c0_2) (h : palaverref06_Right.f k a0_0 a0_1 l0_2 a0_3 a0_4 = some r) :
 Calls Tryd.prog 14 #[.agg #[.int .i64 a0_0, .string a0_1, .slice A0_2 l0_2.length c0_2, .string a0_3, .string a0_4]] w fun e w' => e = .returned (.bool r) ∧ Below w.heap.size w w' := by
 have hu24 := Tryd.underlying24
 have HR0_2 := Aside0.mk hr0_2
 have HC0_2 := Aside0.mk hc0_2
 clear hr0_2 hc0_2
 have HB := Aside0.mk (Below.refl w.heap.size w)
 have H : (if a0_0 < 1 then (palaverref06_Right.j0 k true a0_0 a0_1 l0_2 a0_3 a0_4) else (if a0_0 > 5 then (palaverref06_Right.j0 k true a0_0 a0_1 l0_2 a0_3 a0_4) else (if (a0_1.size : Int) = 32 then (if (l0_2.length : Int) > 8 then (palaverref06_Right.j0 k true a0_0 a0_1 l0_2 a0_3 a0_4) else (if (a0_3.size : Int) > 200 then (palaverref06_Right.j0 k true a0_0 a0_1 l0_2 a0_3 a0_4) else (palaverref06_Right.j0 k (decide ((a0_4.size : Int) > 65535)) a0_0 a0_1 l0_2 a0_3 a0_4))) else (palaverref06_Right.j0 k true a0_0 a0_1 l0_2 a0_3 a0_4)))) = some r := h
 clear h
 have HC2 := Aside0.mk H
 clear H
 go_enter Tryd.func14, Tryd.ntmps14
 go_upto_region 1 with (first | ((with_reducible refine gate_dst (N := 1) rfl ?_); ((refine gate_guard (by rfl) ?_; dsimp only)); refine box_event ?hg (N := 1) ?hd (cs := #[.int .i64 a0_0, .string a0_1, .slice A0_2 l0_2.length c0_2, .string a0_3, .string a0_4]) (t := 24) ?hr ?_; (case hd => rfl); (case hg => rfl); (case hr => exact gr_); intro gb265 hg w3 hbox hb; have GE265 := Aside0.mk ((by rw [hg]; exact (below_size bl_) : w.heap.size ≤ gb265)); have GW265 := Aside0.mk ((by rw [hg]; exact (below_size bl_) : w.heap.size ≤ gb265)); have BK265 := Aside0.mk (hbox); replace HB := Aside0.mk (below_step bl_ hb); clear hb hbox hg))
 repeat (go_quiet (first | ((with_reducible refine gate_dst (N := 1) rfl ?_); (try (refine gate_guard (by rfl) ?_; dsimp only)); refine box_event ?hg (N := 1) ?hd (cs := #[.int .i64 a0_0, .string a0_1, .slice A0_2 l0_2.length c0_2, .string a0_3, .string a0_4]) (t := 24) ?hr ?_; (case hd => rfl); (case hg => rfl); (case hr => exact gr_); intro gb265 hg w3 hbox hb; have GE265 := Aside0.mk ((by rw [hg]; exact (below_size bl_) : w.heap.size ≤ gb265)); have GW265 := Aside0.mk ((by rw [hg]; exact (below_size bl_) : w.heap.size ≤ gb265)); have BK265 := Aside0.mk (hbox); replace HB := Aside0.mk (below_step bl_ hb); clear hb hbox hg)); go_upto_region 1 with (first | ((with_reducible refine gate_dst (N := 1) rfl ?_); (try (refine gate_guard (by rfl) ?_; dsimp only)); refine box_event ?hg (N := 1) ?hd (cs := #[.int .i64 a0_0, .string a0_1, .slice A0_2 l0_2.length c0_2, .string a0_3, .string a0_4]) (t := 24) ?hr ?_; (case hd => rfl); (case hg => rfl); (case hr => exact gr_); intro gb265 hg w3 hbox hb; have GE265 := Aside0.mk ((by rw [hg]; exact (below_size bl_) : w.heap.size ≤ gb265)); have GW265 := Aside0.mk ((by rw [hg]; exact (below_size bl_) : w.heap.size ≤ gb265)); have BK265 := Aside0.mk (hbox); replace HB := Aside0.mk (below_step bl_ hb); clear hb hbox hg)))
 go_cut [35] (fun v35 wc => ∃ (kq : Nat) (x35_1 : Bool), v35 = .bool x35_1 ∧ Aside0 (palaverref06_Right.j0 kq x35_1 a0_0 a0_1 l0_2 a0_3 a0_4 = some r) ∧ Aside0 (kq ≤ k) ∧ Aside0 (wc.heap[gb265]? = some (.cells #[.int .i64 a0_0, .string a0_1, (.slice A0_2 l0_2.length c0_2), .string a0_3, .string a0_4] 24 (0, 0))) ∧ Aside0 (Below w.heap.size w wc))
 case first =>
  have H := HC2.out
  clear HC2
  by_cases c4 : a0_0 < 1
  ·rw [if_pos c4] at H
   have c4b0 : decide (a0_0 < 1) = true := decide_eq_true c4
   clear c4
   (first | rw [c4b0] | (simp only [i64_w, i32_w]; rw [c4b0]) | skip)
   have H' := Aside0.mk H
   clear H
   obtain ⟨hcz5_0, hcz5_1, hcz5_2, hcz5_3, hcz5_4⟩ := c5_ BK265.out
   obtain ⟨hfz5_0, hfz5_1, hfz5_2, hfz5_3, hfz5_4⟩ := f5_ BK265.out
   go_wp2
   repeat (go_quiet (fail); try go_wp2)
   go_meet
   case rel => exact ⟨_, (true), vq_, H', ⟨by first | omega | exact Nat.le_refl _⟩, ⟨mb_ BK265.out⟩, ⟨bs_ GE265.out⟩⟩
  rw [if_neg c4] at H
  have c4b0 : decide (a0_0 < 1) = false := decide_eq_false c4
  clear c4
  (first | rw [c4b0] | (simp only [i64_w, i32_w]; rw [c4b0]) | skip)
  by_cases c6 : a0_0 > 5
  ·rw [if_pos c6] at H
   have c6b0 : decide (5 < a0_0) = true := decide_eq_true c6
   clear c6
   have H' := Aside0.mk H
   clear H
   obtain ⟨hcz7_0, hcz7_1, hcz7_2, hcz7_3, hcz7_4⟩ := c5_ BK265.out
   obtain ⟨hfz7_0, hfz7_1, hfz7_2, hfz7_3, hfz7_4⟩ := f5_ BK265.out
   go_wp2
   repeat (go_quiet (fail); try go_wp2)
   go_meet
   case rel => exact ⟨_, (true), vq_, H', ⟨by first | omega | exact Nat.le_refl _⟩, ⟨mb_ BK265.out⟩, ⟨bs_ GE265.out⟩⟩
  rw [if_neg c6] at H
  have c6b0 : decide (5 < a0_0) = false := decide_eq_false c6
  clear c6
  by_cases c8 : (a0_1.size : Int) = 32
  ·rw [if_pos c8] at H
   have c8b0 : ((a0_1.size : Int) == 32) = true := beq_iff_eq.mpr c8
   have c8b1 : ((a0_1.size : Int) != 32) = false := bne_eq_false_iff_eq.mpr c8
   clear c8
   by_cases c9 : (l0_2.length : Int) > 8
   ·rw [if_pos c9] at H
    have c9b0 : decide (8 < (l0_2.length : Int)) = true := decide_eq_true c9
    have c9b1 : decide (8 < l0_2.length) = true := decide_eq_true (by omega)
    clear c9
    have H' := Aside0.mk H
    clear H
    obtain ⟨hcz10_0, hcz10_1, hcz10_2, hcz10_3, hcz10_4⟩ := c5_ BK265.out
    obtain ⟨hfz10_0, hfz10_1, hfz10_2, hfz10_3, hfz10_4⟩ := f5_ BK265.out
    go_wp2
    repeat (go_quiet (fail); try go_wp2)
    go_meet
    case rel => exact ⟨_, (true), vq_, H', ⟨by first | omega | exact Nat.le_refl _⟩, ⟨mb_ BK265.out⟩, ⟨bs_ GE265.out⟩⟩
   rw [if_neg c9] at H
   have c9b0 : decide (8 < (l0_2.length : Int)) = false := decide_eq_false c9
   have c9b1 : decide (8 < l0_2.length) = false := decide_eq_false (by omega)
   clear c9
   by_cases c11 : (a0_3.size : Int) > 200
   ·rw [if_pos c11] at H
    have c11b0 : decide (200 < (a0_3.size : Int)) = true := decide_eq_true c11
    have c11b1 : decide (200 < a0_3.size) = true := decide_eq_true (by omega)
    clear c11
    have H' := Aside0.mk H
    clear H
    obtain ⟨hcz12_0, hcz12_1, hcz12_2, hcz12_3, hcz12_4⟩ := c5_ BK265.out
    obtain ⟨hfz12_0, hfz12_1, hfz12_2, hfz12_3, hfz12_4⟩ := f5_ BK265.out
    go_wp2
    repeat (go_quiet (fail); try go_wp2)
    go_meet
    case rel => exact ⟨_, (true), vq_, H', ⟨by first | omega | exact Nat.le_refl _⟩, ⟨mb_ BK265.out⟩, ⟨bs_ GE265.out⟩⟩
   rw [if_neg c11] at H
   have c11b0 : decide (200 < (a0_3.size : Int)) = false := decide_eq_false c11
   have c11b1 : decide (200 < a0_3.size) = false := decide_eq_false (by omega)
   clear c11
   have H' := Aside0.mk H
   clear H
   obtain ⟨hcz13_0, hcz13_1, hcz13_2, hcz13_3, hcz13_4⟩ := c5_ BK265.out
   obtain ⟨hfz13_0, hfz13_1, hfz13_2, hfz13_3, hfz13_4⟩ := f5_ BK265.out
   go_wp2
   repeat (go_quiet (fail); try go_wp2)
   go_meet
   case rel => exact ⟨_, (decide ((a0_4.size : Int) > 65535)), vq_, H', ⟨by first | omega | exact Nat.le_refl _⟩, ⟨mb_ BK265.out⟩, ⟨bs_ GE265.out⟩⟩
  rw [if_neg c8] at H
  have c8b0 : ((a0_1.size : Int) == 32) = false := beq_eq_false_iff_ne.mpr c8
  have c8b1 : ((a0_1.size : Int) != 32) = true := bne_iff_ne.mpr c8
  have H' := Aside0.mk H
  clear H
  obtain ⟨hcz14_0, hcz14_1, hcz14_2, hcz14_3, hcz14_4⟩ := c5_ BK265.out
  obtain ⟨hfz14_0, hfz14_1, hfz14_2, hfz14_3, hfz14_4⟩ := f5_ BK265.out
  go_wp2
  repeat (go_quiet (fail); try go_wp2)
  go_meet
  case rel => exact ⟨_, (true), vq_, H', ⟨by first | omega | exact Nat.le_refl _⟩, ⟨mb_ BK265.out⟩, ⟨bs_ GE265.out⟩⟩
 case rest =>
  clear HC2
  obtain ⟨kq, x35_1, rfl, HA, HJ1, BK265, HB⟩ := hcut
  cases kq with
  | zero => exact absurd HA.out (by simp [palaverref06_Right.j0])
  | succ kj1 =>
   have H := HA.out
   clear HA
   simp only [palaverref06_Right.j0] at H
   by_cases c15 : x35_1 = true
   ·subst c15
    have H1 : (some false) = some r := by rw [if_pos rfl] at H; exact H
    clear H
    have H := H1
    clear H1
    obtain rfl := Option.some.inj H
    go_wp2
    repeat (go_quiet (fail); try go_wp2)
    go_ret
    exact ⟨er_, bs_ GE265.out⟩
   replace c15 := Bool.eq_false_iff.mpr c15
   subst c15
   have H1 : (if ((a0_0 == 1) != ((l0_2.length : Int) == 0)) = true then (palaverref06_Right.j1 kj1 true a0_0 a0_1 l0_2 a0_3 a0_4) else (if a0_0 = 4 then (palaverref06_Right.j1 kj1 ((a0_3.size : Int) != 32) a0_0 a0_1 l0_2 a0_3 a0_4) else (if a0_0 = 5 then (palaverref06_Right.j1 kj1 ((a0_3.size : Int) != 32) a0_0 a0_1 l0_2 a0_3 a0_4) else (palaverref06_Right.j1 kj1 false a0_0 a0_1 l0_2 a0_3 a0_4)))) = some r := by rw [if_neg (show ¬ (false = true) by decide)] at H; exact H
   clear H
   have H := H1
   clear H1
   have HC16 := Aside0.mk H
   clear H
   go_upto_region 3 with (fail)
   repeat (go_quiet (fail); go_upto_region 3 with (fail))
   go_cut [59] (fun v59 wc => ∃ (kq : Nat) (x59_15 : Bool), v59 = .bool x59_15 ∧ Aside0 (palaverref06_Right.j1 kq x59_15 a0_0 a0_1 l0_2 a0_3 a0_4 = some r) ∧ Aside0 (kq ≤ kj1) ∧ Aside0 (wc.heap[gb265]? = some (.cells #[.int .i64 a0_0, .string a0_1, (.slice A0_2 l0_2.length c0_2), .string a0_3, .string a0_4] 24 (0, 0))) ∧ Aside0 (Below w.heap.size w wc))
   case first =>
    have H := HC16.out
    clear HC16
    by_cases c17 : ((a0_0 == 1) != ((l0_2.length : Int) == 0)) = true
    ·rw [if_pos c17] at H
     have c17b0 : ((a0_0 == 1) != ((l0_2.length : Int) == 0)) = true := c17
     (have c17b1 : decide ((a0_0 == 1) = ((l0_2.length : Int) == 0)) = false := by simpa using c17)
     (have c17b2 : ((a0_0 == 1) == ((l0_2.length : Int) == 0)) = false := by simpa using c17)
     (have c17b3 : ¬ ((a0_0 == 1) = ((l0_2.length : Int) == 0)) := by simpa using c17)
     clear c17
     (first | rw [c17b0] | (simp only [i64_w, i32_w]; rw [c17b0]) | skip)
     have H' := Aside0.mk H
     clear H
     obtain ⟨hcz18_0, hcz18_1, hcz18_2, hcz18_3, hcz18_4⟩ := c5_ BK265.out
     obtain ⟨hfz18_0, hfz18_1, hfz18_2, hfz18_3, hfz18_4⟩ := f5_ BK265.out
     go_wp2
     repeat (go_quiet (fail); try go_wp2)
     go_meet
     case rel => exact ⟨_, (true), vq_, H', ⟨by have := HJ1.out; first | omega | exact Nat.le_refl _⟩, ⟨mb_ BK265.out⟩, ⟨bs_ GE265.out⟩⟩
    rw [if_neg c17] at H
    have c17b0 : ((a0_0 == 1) != ((l0_2.length : Int) == 0)) = false := by simpa using c17
    (have c17b1 : decide ((a0_0 == 1) = ((l0_2.length : Int) == 0)) = true := by simpa using c17)
    (have c17b2 : ((a0_0 == 1) == ((l0_2.length : Int) == 0)) = true := by simpa using c17)
    clear c17
    (first | rw [c17b0] | (simp only [i64_w, i32_w]; rw [c17b0]) | skip)
    by_cases c19 : a0_0 = 4
    ·rw [if_pos c19] at H
     have c19b0 : (a0_0 == 4) = true := beq_iff_eq.mpr c19
     have c19b1 : (a0_0 != 4) = false := bne_eq_false_iff_eq.mpr c19
     clear c19
     have H' := Aside0.mk H
     clear H
     obtain ⟨hcz20_0, hcz20_1, hcz20_2, hcz20_3, hcz20_4⟩ := c5_ BK265.out
     obtain ⟨hfz20_0, hfz20_1, hfz20_2, hfz20_3, hfz20_4⟩ := f5_ BK265.out
     go_wp2
     repeat (go_quiet (fail); try go_wp2)
     go_meet
     case rel => exact ⟨_, (((a0_3.size : Int) != 32)), vq_, H', ⟨by have := HJ1.out; first | omega | exact Nat.le_refl _⟩, ⟨mb_ BK265.out⟩, ⟨bs_ GE265.out⟩⟩
    rw [if_neg c19] at H
    have c19b0 : (a0_0 == 4) = false := beq_eq_false_iff_ne.mpr c19
    have c19b1 : (a0_0 != 4) = true := bne_iff_ne.mpr c19
    by_cases c21 : a0_0 = 5
    ·rw [if_pos c21] at H
     have c21b0 : (a0_0 == 5) = true := beq_iff_eq.mpr c21
     have c21b1 : (a0_0 != 5) = false := bne_eq_false_iff_eq.mpr c21
     clear c21
     have H' := Aside0.mk H
     clear H
     obtain ⟨hcz22_0, hcz22_1, hcz22_2, hcz22_3, hcz22_4⟩ := c5_ BK265.out
     obtain ⟨hfz22_0, hfz22_1, hfz22_2, hfz22_3, hfz22_4⟩ := f5_ BK265.out
     go_wp2
     repeat (go_quiet (fail); try go_wp2)
     go_meet
     case rel => exact ⟨_, (((a0_3.size : Int) != 32)), vq_, H', ⟨by have := HJ1.out; first | omega | exact Nat.le_refl _⟩, ⟨mb_ BK265.out⟩, ⟨bs_ GE265.out⟩⟩
    rw [if_neg c21] at H
    have c21b0 : (a0_0 == 5) = false := beq_eq_false_iff_ne.mpr c21
    have c21b1 : (a0_0 != 5) = true := bne_iff_ne.mpr c21
    have H' := Aside0.mk H
    clear H
    obtain ⟨hcz23_0, hcz23_1, hcz23_2, hcz23_3, hcz23_4⟩ := c5_ BK265.out
    obtain ⟨hfz23_0, hfz23_1, hfz23_2, hfz23_3, hfz23_4⟩ := f5_ BK265.out
    go_wp2
    repeat (go_quiet (fail); try go_wp2)
    go_meet
    case rel => exact ⟨_, (false), vq_, H', ⟨by have := HJ1.out; first | omega | exact Nat.le_refl _⟩, ⟨mb_ BK265.out⟩, ⟨bs_ GE265.out⟩⟩
   case rest =>
    clear HC16
    obtain ⟨kq, x59_15, rfl, HA, HJ15, BK265, HB⟩ := hcut
    cases kq with
    | zero => exact absurd HA.out (by simp [palaverref06_Right.j1])
    | succ kj15 =>
     have H := HA.out
     clear HA
     simp only [palaverref06_Right.j1] at H
     by_cases c24 : x59_15 = true
     ·subst c24
      have H1 : (some false) = some r := by rw [if_pos rfl] at H; exact H
      clear H
      have H := H1
      clear H1
      obtain rfl := Option.some.inj H
      go_wp2
      repeat (go_quiet (fail); try go_wp2)
      go_ret
      exact ⟨er_, bs_ GE265.out⟩
     replace c24 := Bool.eq_false_iff.mpr c24
     subst c24
     have H1 : (palaverref06_Right.l0 kj15 0 a0_0 a0_1 l0_2 a0_3 a0_4) = some r := by rw [if_neg (show ¬ (false = true) by decide)] at H; exact H
     clear H
     have H := H1
     clear H1
     have H' := Aside0.mk H
     clear H
     go_wp2
     repeat (go_quiet (fail); try go_wp2)
     go_loopg [3] kj15 (fun kq v3 w' => ∃ (x3_3 : Int), v3 = .int .i64 x3_3 ∧ Aside0 (palaverref06_Right.l0 kq x3_3 a0_0 a0_1 l0_2 a0_3 a0_4 = some r) ∧ Aside0 (kq ≤ kj15) ∧ Aside0 (w'.heap[gb265]? = some (.cells #[.int .i64 a0_0, .string a0_1, (.slice A0_2 l0_2.length c0_2), .string a0_3, .string a0_4] 24 (0, 0))) ∧ Aside0 (Below w.heap.size w w'))
     case atStart => exact ⟨(0), vq_, H', ⟨Nat.le_refl _⟩, ⟨mb_ BK265.out⟩, ⟨bs_ GE265.out⟩⟩
     case round =>
      clear H'
      obtain ⟨x3_3, rfl, HA, HK3, BK265, HB⟩ := hrel
      cases gk with
      | zero => exact absurd HA.out (by simp [palaverref06_Right.l0])
      | succ k3 =>
       have H := HA.out
       clear HA
       simp only [palaverref06_Right.l0] at H
       by_cases c25 : x3_3 < (l0_2.length : Int)
       ·rw [if_pos c25] at H
        have c25b0 : decide (x3_3 < (l0_2.length : Int)) = true := decide_eq_true c25
        clear c25
        revert H; refine nd_ fun c26 c26b0 H => ?_
        clear c26
        by_cases c27 : ((rdOf ByteArray.empty l0_2 x3_3).size : Int) = 32
        ·rw [if_pos c27] at H
         have c27b0 : (((rdOf ByteArray.empty l0_2 x3_3).size : Int) == 32) = true := beq_iff_eq.mpr c27
         have c27b1 : (((rdOf ByteArray.empty l0_2 x3_3).size : Int) != 32) = false := bne_eq_false_iff_eq.mpr c27
         clear c27
         by_cases c28 : x3_3 > 0
         ·rw [if_pos c28] at H
          have c28b0 : decide (0 < x3_3) = true := decide_eq_true c28
          clear c28
          generalize hji29 : (wrap64 (x3_3 - 1)) = ji29 at H
          have hji29w := (i64_w _).trans hji29
          revert H; refine nd_ fun c30 c30b0 => nd_ fun c31 c31b0 H => ?_
          clear c30 c31
          by_cases c32 : ((Op.bytesLess ((rdOf ByteArray.empty l0_2 (ji29)).toList) ((rdOf ByteArray.empty l0_2 x3_3).toList)) = true)
          ·rw [if_pos c32] at H
           have c32b0 : (Op.bytesLess ((rdOf ByteArray.empty l0_2 (ji29)).toList) ((rdOf ByteArray.empty l0_2 x3_3).toList)) = true := c32
           clear c32
           have H' := Aside0.mk H
           clear H
           obtain ⟨hcz33_0, hcz33_1, hcz33_2, hcz33_3, hcz33_4⟩ := c5_ BK265.out
           obtain ⟨hfz33_0, hfz33_1, hfz33_2, hfz33_3, hfz33_4⟩ := f5_ BK265.out
           have p266 : 0 ≤ (x3_3 : Int) := ae_
           have q266 : x3_3 < (l0_2.length : Int) := ae_
           obtain ⟨ad266, e266, hx266_0⟩ := Kd.at_string HR0_2.out x3_3 p266 q266
           cases e266
           replace hx266_0 := (HB.out.cell (World.block_lt_of_cell? w _ hx266_0)).trans hx266_0
           replace p266 := eq_true p266
           replace q266 := eq_true q266
           have p267 : 0 ≤ (x3_3 : Int) := ae_
           have q267 : x3_3 < (l0_2.length : Int) := ae_
           obtain ⟨ad267, e267, hx267_0⟩ := Kd.at_string HR0_2.out x3_3 p267 q267
           obtain rfl : ad266 = ad267 := (by injection e267)
           replace hx267_0 := (HB.out.cell (World.block_lt_of_cell? w _ hx267_0)).trans hx267_0
           replace p267 := eq_true p267
           replace q267 := eq_true q267
           have p268 : 0 ≤ ((ji29) : Int) := ae_
           have q268 : (ji29) < (l0_2.length : Int) := ae_
           obtain ⟨ad268, e268, hx268_0⟩ := Kd.at_string HR0_2.out (ji29) p268 q268
           obtain rfl : ad266 = ad268 := (by injection e268)
           replace hx268_0 := (HB.out.cell (World.block_lt_of_cell? w _ hx268_0)).trans hx268_0
           replace p268 := eq_true p268
           replace q268 := eq_true q268
           go_wp2
           repeat (go_quiet (fail); try go_wp2)
           go_roundg k3
           case measure => have := HJ1.out; have := HJ15.out; have := HK3.out; omega
           case rel => exact ⟨(wrap64 (x3_3 + 1)), vq_, H', ⟨by have := HJ1.out; have := HJ15.out; have := HK3.out; omega⟩, ⟨mb_ BK265.out⟩, ⟨bs_ GE265.out⟩⟩
          rw [if_neg c32] at H
          have c32b0 : (Op.bytesLess ((rdOf ByteArray.empty l0_2 (ji29)).toList) ((rdOf ByteArray.empty l0_2 x3_3).toList)) = false := by simpa using c32
          clear c32
          obtain rfl := Option.some.inj H
          obtain ⟨hcz34_0, hcz34_1, hcz34_2, hcz34_3, hcz34_4⟩ := c5_ BK265.out
          obtain ⟨hfz34_0, hfz34_1, hfz34_2, hfz34_3, hfz34_4⟩ := f5_ BK265.out
          have p266 : 0 ≤ (x3_3 : Int) := ae_
          have q266 : x3_3 < (l0_2.length : Int) := ae_
          obtain ⟨ad266, e266, hx266_0⟩ := Kd.at_string HR0_2.out x3_3 p266 q266
          cases e266
          replace hx266_0 := (HB.out.cell (World.block_lt_of_cell? w _ hx266_0)).trans hx266_0
          replace p266 := eq_true p266
          replace q266 := eq_true q266
          have p267 : 0 ≤ (x3_3 : Int) := ae_
          have q267 : x3_3 < (l0_2.length : Int) := ae_
          obtain ⟨ad267, e267, hx267_0⟩ := Kd.at_string HR0_2.out x3_3 p267 q267
          obtain rfl : ad266 = ad267 := (by injection e267)
          replace hx267_0 := (HB.out.cell (World.block_lt_of_cell? w _ hx267_0)).trans hx267_0
          replace p267 := eq_true p267
          replace q267 := eq_true q267
          have p268 : 0 ≤ ((ji29) : Int) := ae_
          have q268 : (ji29) < (l0_2.length : Int) := ae_
          obtain ⟨ad268, e268, hx268_0⟩ := Kd.at_string HR0_2.out (ji29) p268 q268
          obtain rfl : ad266 = ad268 := (by injection e268)
          replace hx268_0 := (HB.out.cell (World.block_lt_of_cell? w _ hx268_0)).trans hx268_0
          replace p268 := eq_true p268
          replace q268 := eq_true q268
          go_wp2
          repeat (go_quiet (fail); try go_wp2)
          go_ret
          exact ⟨by first | rfl | (simp [errW_none, errW_some] <;> rfl) | (simp only [← hji29]; first | rfl | (simp [errW_none, errW_some] <;> rfl)) | (simp [*, errW_none, errW_some] <;> rfl), bs_ GE265.out⟩
         rw [if_neg c28] at H
         have c28b0 : decide (0 < x3_3) = false := decide_eq_false c28
         clear c28
         have H' := Aside0.mk H
         clear H
         obtain ⟨hcz35_0, hcz35_1, hcz35_2, hcz35_3, hcz35_4⟩ := c5_ BK265.out
         obtain ⟨hfz35_0, hfz35_1, hfz35_2, hfz35_3, hfz35_4⟩ := f5_ BK265.out
         have p266 : 0 ≤ (x3_3 : Int) := ae_
         have q266 : x3_3 < (l0_2.length : Int) := ae_
         obtain ⟨ad266, e266, hx266_0⟩ := Kd.at_string HR0_2.out x3_3 p266 q266
         cases e266
         replace hx266_0 := (HB.out.cell (World.block_lt_of_cell? w _ hx266_0)).trans hx266_0
         replace p266 := eq_true p266
         replace q266 := eq_true q266
         go_wp2
         repeat (go_quiet (fail); try go_wp2)
         go_roundg k3
         case measure => have := HJ1.out; have := HJ15.out; have := HK3.out; omega
         case rel => exact ⟨(wrap64 (x3_3 + 1)), vq_, H', ⟨by have := HJ1.out; have := HJ15.out; have := HK3.out; omega⟩, ⟨mb_ BK265.out⟩, ⟨bs_ GE265.out⟩⟩
        rw [if_neg c27] at H
        have c27b0 : (((rdOf ByteArray.empty l0_2 x3_3).size : Int) == 32) = false := beq_eq_false_iff_ne.mpr c27
        have c27b1 : (((rdOf ByteArray.empty l0_2 x3_3).size : Int) != 32) = true := bne_iff_ne.mpr c27
        obtain rfl := Option.some.inj H
        obtain ⟨hcz36_0, hcz36_1, hcz36_2, hcz36_3, hcz36_4⟩ := c5_ BK265.out
        obtain ⟨hfz36_0, hfz36_1, hfz36_2, hfz36_3, hfz36_4⟩ := f5_ BK265.out
        have p266 : 0 ≤ (x3_3 : Int) := ae_
        have q266 : x3_3 < (l0_2.length : Int) := ae_
        obtain ⟨ad266, e266, hx266_0⟩ := Kd.at_string HR0_2.out x3_3 p266 q266
        cases e266
        replace hx266_0 := (HB.out.cell (World.block_lt_of_cell? w _ hx266_0)).trans hx266_0
        replace p266 := eq_true p266
        replace q266 := eq_true q266
        go_wp2
        repeat (go_quiet (fail); try go_wp2)
        go_ret
        exact ⟨er_, bs_ GE265.out⟩
       rw [if_neg c25] at H
       have c25b0 : decide (x3_3 < (l0_2.length : Int)) = false := decide_eq_false c25
       clear c25
       obtain rfl := Option.some.inj H
       obtain ⟨hcz37_0, hcz37_1, hcz37_2, hcz37_3, hcz37_4⟩ := c5_ BK265.out
       obtain ⟨hfz37_0, hfz37_1, hfz37_2, hfz37_3, hfz37_4⟩ := f5_ BK265.out
       go_wp2
       repeat (go_quiet (fail); try go_wp2)
       go_ret
       exact ⟨er_, bs_ GE265.out⟩

/-! ### palaverref01_Text: function 28 -/
def palaverref01_Text.f (k : Nat) (a0 : ByteArray) : Option (ByteArray × Bool) := (palaverref01_Number.f k (a0.size : Int) 2).bind fun bt269 => (if bt269.2 = true then (if bt269.1.size + a0.size ≤ 9223372036854775807 then (some (bt269.1 ++ a0, true)) else (none)) else (some ((⟨#[]⟩ : ByteArray), false)))
theorem palaverref01_Text.mono : ∀ a0 k, LeO (palaverref01_Text.f k a0) (palaverref01_Text.f (k + 1) a0) := by
 intro a0 k
 unfold palaverref01_Text.f
 repeat' first
  | (with_reducible exact palaverref01_Number.mono _ _ _)
  | (with_reducible exact LeO.refl _)
  | (with_reducible exact LeO.none _)
  | (with_reducible refine LeO.ite ?_ ?_)
  | (with_reducible refine LeO.bind ?_ (fun _ => ?_))
  | exact palaverref01_Number.mono _ _ _
  | exact LeO.none _
  | refine LeO.ite ?_ ?_
  | refine LeO.bind ?_ (fun _ => ?_)
set_option maxHeartbeats 64000000 in
set_option maxRecDepth 100000 in
theorem palaverref01_Text.calls (k : Nat) (a0 : ByteArray) (r1 : ByteArray) (r2 : Bool) (w : World) (h : palaverref01_Text.f k a0 = some (r1, r2)) :
 Calls Tryd.prog 28 #[.string a0] w fun e w' => e = .returned (.tuple #[.string r1, .bool r2]) ∧ Below w.heap.size w w' := by
 have HB := Aside0.mk (Below.refl w.heap.size w)
 have H : ((palaverref01_Number.f k (a0.size : Int) 2).bind fun bt269 => (if bt269.2 = true then (if bt269.1.size + a0.size ≤ 9223372036854775807 then (some (bt269.1 ++ a0, true)) else (none)) else (some ((⟨#[]⟩ : ByteArray), false)))) = some (r1, r2) := h
 clear h
 replace H := ob_ H
 obtain ⟨⟨t269, t270⟩, A20, H⟩ := H
 replace H : (if t270 = true then (if t269.size + a0.size ≤ 9223372036854775807 then (some (t269 ++ a0, true)) else (none)) else (some ((⟨#[]⟩ : ByteArray), false))) = some (r1, r2) := H
 have A2 := Aside0.mk A20
 clear A20
 by_cases c3 : t270 = true
 ·subst c3
  have H1 : (if t269.size + a0.size ≤ 9223372036854775807 then (some (t269 ++ a0, true)) else (none)) = some (r1, r2) := by rw [if_pos rfl] at H; exact H
  clear H
  have H := H1
  clear H1
  revert H; refine ne_ fun c4 c4b0 c4b1 H => ?_
  try have c4b2 : (9223372036854775807 < t269.size + a0.size) = False := eq_false (Nat.not_lt.2 c4)
  simp only [Option.some.injEq, Prod.mk.injEq] at H
  obtain ⟨rfl, rfl⟩ := H
  go_enter Tryd.func28, Tryd.ntmps28
  go_wp2_with (first | ((with_reducible refine gate_callee (f := 47) rfl ?_); refine gL_ 9 Tryd.func47 #[.int .i64 (a0.size : Int), .int .i64 2] ?_; (with_reducible refine (palaverref01_Number.calls k (a0.size : Int) 2 t269 true _ A2.out).mono ?_); rintro e w5 ⟨rfl, hb⟩; refine ⟨_, rfl, ?_⟩; replace HB := Aside0.mk (below_step bl_ hb); clear hb))
  go_ret2
  exact ⟨er_, bl_⟩
 replace c3 := Bool.eq_false_iff.mpr c3
 subst c3
 have H1 : (some ((⟨#[]⟩ : ByteArray), false)) = some (r1, r2) := by rw [if_neg (show ¬ (false = true) by decide)] at H; exact H
 clear H
 have H := H1
 clear H1
 simp only [Option.some.injEq, Prod.mk.injEq] at H
 obtain ⟨rfl, rfl⟩ := H
 go_enter Tryd.func28, Tryd.ntmps28
 go_wp2_with (first | ((with_reducible refine gate_callee (f := 47) rfl ?_); refine gL_ 9 Tryd.func47 #[.int .i64 (a0.size : Int), .int .i64 2] ?_; (with_reducible refine (palaverref01_Number.calls k (a0.size : Int) 2 t269 false _ A2.out).mono ?_); rintro e w6 ⟨rfl, hb⟩; refine ⟨_, rfl, ?_⟩; replace HB := Aside0.mk (below_step bl_ hb); clear hb))
 go_ret2
 exact ⟨er_, bl_⟩

/-! ### palaverref06_Content: function 16 -/
def palaverref06_Content.l0 : Nat → ByteArray → ByteArray → Int → Int → ByteArray → List ByteArray → ByteArray → ByteArray → Option (ByteArray)
 | 0, _, _, _, _, _, _, _, _ => none
 | k + 1, x5, x7, x8, x272000, x272001, x272002, x272003, x272004 => if x8 < (x272002.length : Int) then (if 0 ≤ x8 then (if x7.size + (rdOf ByteArray.empty x272002 x8).size ≤ 9223372036854775807 then (palaverref06_Content.l0 k x5 (x7 ++ (rdOf ByteArray.empty x272002 x8)) (wrap64 (x8 + 1)) x272000 x272001 x272002 x272003 x272004) else (none)) else (none)) else (if x7.size + x5.size ≤ 9223372036854775807 then (some (x7 ++ x5)) else (none))
def palaverref06_Content.f (k : Nat) (a0_0 : Int) (a0_1 : ByteArray) (l0_2 : List ByteArray) (a0_3 : ByteArray) (a0_4 : ByteArray) : Option (ByteArray) := (palaverref01_Text.f k a0_1).bind fun bt272 => ((palaverref01_Text.f k a0_3).bind fun bt274 => ((some (([(a0_0) % 256] : List Int) : List Int)).bind fun y276 => (if (strOfNums y276).size + bt272.1.size ≤ 9223372036854775807 then ((some (([((l0_2.length : Int)) % 256] : List Int) : List Int)).bind fun y279 => (if ((strOfNums y276) ++ bt272.1).size + (strOfNums y279).size ≤ 9223372036854775807 then (palaverref06_Content.l0 k bt274.1 (((strOfNums y276) ++ bt272.1) ++ (strOfNums y279)) 0 a0_0 a0_1 l0_2 a0_3 a0_4) else (none))) else (none))))
theorem palaverref06_Content.mono_l : ∀ k, (∀ y0 y1 y2 y3 y4 y5 y6 y7, LeO (palaverref06_Content.l0 k y0 y1 y2 y3 y4 y5 y6 y7) (palaverref06_Content.l0 (k + 1) y0 y1 y2 y3 y4 y5 y6 y7))
 | 0 => fun _ _ _ _ _ _ _ _ r h => by simp [palaverref06_Content.l0] at h
 | k + 1 => by
  have ih0 := palaverref06_Content.mono_l k
  ·intro y0 y1 y2 y3 y4 y5 y6 y7
   unfold palaverref06_Content.l0
   repeat' first
   | (with_reducible exact ih0 _ _ _ _ _ _ _ _)
   | (with_reducible exact palaverref01_Text.mono _ _)
   | (with_reducible exact LeO.refl _)
   | (with_reducible exact LeO.none _)
   | (with_reducible refine LeO.ite ?_ ?_)
   | (with_reducible refine LeO.bind ?_ (fun _ => ?_))
   | exact ih0 _ _ _ _ _ _ _ _
   | exact palaverref01_Text.mono _ _
   | exact LeO.none _
   | refine LeO.ite ?_ ?_
   | refine LeO.bind ?_ (fun _ => ?_)
theorem palaverref06_Content.mono : ∀ a0 a1 a2 a3 a4 k, LeO (palaverref06_Content.f k a0 a1 a2 a3 a4) (palaverref06_Content.f (k + 1) a0 a1 a2 a3 a4) := by
 intro a0 a1 a2 a3 a4 k
 have ih0 := palaverref06_Content.mono_l k
 unfold palaverref06_Content.f
 repeat' first
  | (with_reducible exact ih0 _ _ _ _ _ _ _ _)
  | (with_reducible exact palaverref01_Text.mono _ _)
  | (with_reducible exact LeO.refl _)
  | (with_reducible exact LeO.none _)
  | (with_reducible refine LeO.ite ?_ ?_)
  | (with_reducible refine LeO.bind ?_ (fun _ => ?_))
  | exact ih0 _ _ _ _ _ _ _ _
  | exact palaverref01_Text.mono _ _
  | exact LeO.none _
  | refine LeO.ite ?_ ?_
  | refine LeO.bind ?_ (fun _ => ?_)
set_option maxHeartbeats 64000000 in
set_option maxRecDepth 100000 in
theorem palaverref06_Content.calls (k : Nat) (a0_0 : Int) (a0_1 : ByteArray) (A0_2 : Option Addr) (c0_2 : Nat) (l0_2 : List ByteArray) (a0_3 : ByteArray) (a0_4 : ByteArray) (r : ByteArray) (w : World) (hr0_2 : Kd.C Kd.string w A0_2 l0_2.length l0_2) (hc0_2 : l0_2.length ≤ c0_2) (h : palaverref06_Content.f k a0_0 a0_1 l0_2 a0_3 a0_4 = some r) :
 Calls Tryd.prog 16 #[.agg #[.int .i64 a0_0, .string a0_1, .slice A0_2 l0_2.length c0_2, .string a0_3, .string a0_4]] w fun e w' => e = .returned (.string r) ∧ Below w.heap.size w w' := by
 have hu24 := Tryd.underlying24
 have HR0_2 := Aside0.mk hr0_2
 have HC0_2 := Aside0.mk hc0_2
 clear hr0_2 hc0_2
 have HB := Aside0.mk (Below.refl w.heap.size w)
 have H : ((palaverref01_Text.f k a0_1).bind fun bt272 => ((palaverref01_Text.f k a0_3).bind fun bt274 => ((some (([(a0_0) % 256] : List Int) : List Int)).bind fun y276 => (if (strOfNums y276).size + bt272.1.size ≤ 9223372036854775807 then ((some (([((l0_2.length : Int)) % 256] : List Int) : List Int)).bind fun y279 => (if ((strOfNums y276) ++ bt272.1).size + (strOfNums y279).size ≤ 9223372036854775807 then (palaverref06_Content.l0 k bt274.1 (((strOfNums y276) ++ bt272.1) ++ (strOfNums y279)) 0 a0_0 a0_1 l0_2 a0_3 a0_4) else (none))) else (none))))) = some r := h
 clear h
 replace H := ob_ H
 obtain ⟨⟨t272, t273⟩, A20, H⟩ := H
 replace H : ((palaverref01_Text.f k a0_3).bind fun bt274 => ((some (([(a0_0) % 256] : List Int) : List Int)).bind fun y276 => (if (strOfNums y276).size + t272.size ≤ 9223372036854775807 then ((some (([((l0_2.length : Int)) % 256] : List Int) : List Int)).bind fun y279 => (if ((strOfNums y276) ++ t272).size + (strOfNums y279).size ≤ 9223372036854775807 then (palaverref06_Content.l0 k bt274.1 (((strOfNums y276) ++ t272) ++ (strOfNums y279)) 0 a0_0 a0_1 l0_2 a0_3 a0_4) else (none))) else (none)))) = some r := H
 have A2 := Aside0.mk A20
 clear A20
 replace H := ob_ H
 obtain ⟨⟨t274, t275⟩, A30, H⟩ := H
 replace H : ((some (([(a0_0) % 256] : List Int) : List Int)).bind fun y276 => (if (strOfNums y276).size + t272.size ≤ 9223372036854775807 then ((some (([((l0_2.length : Int)) % 256] : List Int) : List Int)).bind fun y279 => (if ((strOfNums y276) ++ t272).size + (strOfNums y279).size ≤ 9223372036854775807 then (palaverref06_Content.l0 k t274 (((strOfNums y276) ++ t272) ++ (strOfNums y279)) 0 a0_0 a0_1 l0_2 a0_3 a0_4) else (none))) else (none))) = some r := H
 have A3 := Aside0.mk A30
 clear A30
 revert H; refine oy_ fun y276 Ny276 => ne_ fun c4 c4b0 c4b1 => oy_ fun y279 Ny279 => ne_ fun c5 c5b0 c5b1 H => ?_
 try have c4b2 : (9223372036854775807 < (strOfNums y276).size + t272.size) = False := eq_false (Nat.not_lt.2 c4)
 try have c5b2 : (9223372036854775807 < ((strOfNums y276) ++ t272).size + (strOfNums y279).size) = False := eq_false (Nat.not_lt.2 c5)
 have H' := Aside0.mk H
 clear H
 go_enter Tryd.func16, Tryd.ntmps16
 go_wp2_with (first | ((with_reducible refine gate_dst (N := 1) rfl ?_); refine box_event ?hg (N := 1) ?hd (cs := #[.int .i64 a0_0, .string a0_1, .slice A0_2 l0_2.length c0_2, .string a0_3, .string a0_4]) (t := 24) ?hr ?_; (case hd => rfl); (case hg => rfl); (case hr => exact gr_); intro gb271 hg w6 hbox hb; have GE271 := Aside0.mk ((by rw [hg]; exact (below_size bl_) : w.heap.size ≤ gb271)); have GW271 := Aside0.mk ((by rw [hg]; exact (below_size bl_) : w.heap.size ≤ gb271)); have BK271 := Aside0.mk (hbox); replace HB := Aside0.mk (below_step bl_ hb); clear hb hbox hg; obtain ⟨hcz7_0, hcz7_1, hcz7_2, hcz7_3, hcz7_4⟩ := c5_ BK271.out; obtain ⟨hfz7_0, hfz7_1, hfz7_2, hfz7_3, hfz7_4⟩ := f5_ BK271.out) | ((with_reducible refine gate_callee (f := 28) rfl ?_); refine gL_ 12 Tryd.func28 #[.string a0_1] ?_; (with_reducible refine (palaverref01_Text.calls k a0_1 t272 t273 _ A2.out).mono ?_); rintro e w8 ⟨rfl, hb⟩; refine ⟨_, rfl, ?_⟩; replace HB := Aside0.mk (below_step (bs_ GE271.out) hb); replace BK271 := Aside0.mk (blk_below (g := gb271) (o := .cells #[.int .i64 a0_0, .string a0_1, .slice A0_2 l0_2.length c0_2, .string a0_3, .string a0_4] 24 (0, 0)) (mb_ BK271.out) hb); clear hb; obtain ⟨hcz9_0, hcz9_1, hcz9_2, hcz9_3, hcz9_4⟩ := c5_ BK271.out; obtain ⟨hfz9_0, hfz9_1, hfz9_2, hfz9_3, hfz9_4⟩ := f5_ BK271.out) | ((with_reducible refine gate_callee (f := 28) rfl ?_); refine gL_ 18 Tryd.func28 #[.string a0_3] ?_; (with_reducible refine (palaverref01_Text.calls k a0_3 t274 t275 _ A3.out).mono ?_); rintro e w10 ⟨rfl, hb⟩; refine ⟨_, rfl, ?_⟩; replace HB := Aside0.mk (below_step (bs_ GE271.out) hb); replace BK271 := Aside0.mk (blk_below (g := gb271) (o := .cells #[.int .i64 a0_0, .string a0_1, .slice A0_2 l0_2.length c0_2, .string a0_3, .string a0_4] 24 (0, 0)) (mb_ BK271.out) hb); clear hb; obtain ⟨hcz11_0, hcz11_1, hcz11_2, hcz11_3, hcz11_4⟩ := c5_ BK271.out; obtain ⟨hfz11_0, hfz11_1, hfz11_2, hfz11_3, hfz11_4⟩ := f5_ BK271.out) | ((with_reducible refine gate_dst (N := 24) rfl ?_); refine Kd.R_lit (Kd.int .u8) _ 5 ?hg (N := 24) ?hd (xs := ([(a0_0) % 256] : List Int)) (inner := [.int .u8 ((a0_0) % 256)]) (ok := fun _ => True) (okp := fun _ => True) ?hr ?hp (fun _ hk => hk) trivial (Below.refl _ _) (Nat.le_refl _) (by simp) ?_; (case hd => rfl); (case hg => rfl); (case hr => exact gr_); (case hp => exact (Reps.one (show Kd.M (Kd.int .u8) _ _ _ ((a0_0) % 256) [.int .u8 ((a0_0) % 256)] from rfl) (Reps.none _ _))); intro v277 w12 ho13 hb hg_ hnew_; clear hg_ hnew_; (first | rw [← Ny276.out] at ho13 | (simp only [Int.reduceToNat] at ho13; rw [← Ny276.out] at ho13)); replace BK271 := Aside0.mk (blk_below (g := gb271) (o := .cells #[.int .i64 a0_0, .string a0_1, .slice A0_2 l0_2.length c0_2, .string a0_3, .string a0_4] 24 (0, 0)) (mb_ BK271.out) hb); have HO278 := Aside0.mk (Kd.R_lower ho13 (below_size (bs_ GE271.out))); replace HB := Aside0.mk (below_step (bs_ GE271.out) hb); clear hb ho13; have hcv14 := own_string (P := Tryd.prog) Tryd.underlying42 Tryd.underlying5 Tryd.underlying9 (Kd.own_of_R HO278.out); obtain ⟨hcz15_0, hcz15_1, hcz15_2, hcz15_3, hcz15_4⟩ := c5_ BK271.out; obtain ⟨hfz15_0, hfz15_1, hfz15_2, hfz15_3, hfz15_4⟩ := f5_ BK271.out) | ((with_reducible refine gate_dst (N := 32) rfl ?_); refine Kd.R_lit (Kd.int .u8) _ 5 ?hg (N := 32) ?hd (xs := ([((l0_2.length : Int)) % 256] : List Int)) (inner := [.int .u8 (((l0_2.length : Int)) % 256)]) (ok := fun _ => True) (okp := fun _ => True) ?hr ?hp (fun _ hk => hk) trivial (Below.refl _ _) (Nat.le_refl _) (by simp) ?_; (case hd => rfl); (case hg => rfl); (case hr => exact gr_); (case hp => exact (Reps.one (show Kd.M (Kd.int .u8) _ _ _ (((l0_2.length : Int)) % 256) [.int .u8 (((l0_2.length : Int)) % 256)] from rfl) (Reps.none _ _))); intro v280 w16 ho17 hb hg_ hnew_; clear hg_ hnew_; (first | rw [← Ny279.out] at ho17 | (simp only [Int.reduceToNat] at ho17; rw [← Ny279.out] at ho17)); replace BK271 := Aside0.mk (blk_below (g := gb271) (o := .cells #[.int .i64 a0_0, .string a0_1, .slice A0_2 l0_2.length c0_2, .string a0_3, .string a0_4] 24 (0, 0)) (mb_ BK271.out) hb); have HO281 := Aside0.mk (Kd.R_lower (Kd.R_new' ho17 (Kd.R_lt (mv_ HO278.out))) (below_size (bs_ GE271.out))); replace HB := Aside0.mk (below_step (bs_ GE271.out) hb); replace HO278 := Aside0.mk (Kd.R_elder' (mv_ HO278.out) (Kd.R_base ho17) hb); clear hb ho17; have hcv18 := own_string (P := Tryd.prog) Tryd.underlying42 Tryd.underlying5 Tryd.underlying9 (Kd.own_of_R HO281.out)))
 go_loopg [7, 8] k (fun kq v7 v8 w' => ∃ (x7_1 : ByteArray) (x8_1 : Int), v7 = .string x7_1 ∧ v8 = .int .i64 x8_1 ∧ Aside0 (palaverref06_Content.l0 kq t274 x7_1 x8_1 a0_0 a0_1 l0_2 a0_3 a0_4 = some r) ∧ Aside0 (kq ≤ k) ∧ Aside0 (w'.heap[gb271]? = some (.cells #[.int .i64 a0_0, .string a0_1, (.slice A0_2 l0_2.length c0_2), .string a0_3, .string a0_4] 24 (0, 0))) ∧ Aside0 (Below w.heap.size w w'))
 case atStart => exact ⟨(((strOfNums y276) ++ t272) ++ (strOfNums y279)), (0), vq_, vq_, H', ⟨Nat.le_refl _⟩, ⟨mb_ BK271.out⟩, ⟨bs_ GE271.out⟩⟩
 case round =>
  clear H'
  clear c4 c4b0 c4b1 c4b2 c5 c5b0 c5b1 c5b2 hcv14 hcv18 hcz11_0 hcz11_1 hcz11_2 hcz11_3 hcz11_4 hcz15_0 hcz15_1 hcz15_2 hcz15_3 hcz15_4 hcz7_0 hcz7_1 hcz7_2 hcz7_3 hcz7_4 hcz9_0 hcz9_1 hcz9_2 hcz9_3 hcz9_4 hfz11_0 hfz11_1 hfz11_2 hfz11_3 hfz11_4 hfz15_0 hfz15_1 hfz15_2 hfz15_3 hfz15_4 hfz7_0 hfz7_1 hfz7_2 hfz7_3 hfz7_4 hfz9_0 hfz9_1 hfz9_2 hfz9_3 hfz9_4
  obtain ⟨x7_1, x8_1, rfl, rfl, HA, HK1, BK271, HB⟩ := hrel
  cases gk with
  | zero => exact absurd HA.out (by simp [palaverref06_Content.l0])
  | succ k1 =>
   have H := HA.out
   clear HA
   simp only [palaverref06_Content.l0] at H
   by_cases c19 : x8_1 < (l0_2.length : Int)
   ·rw [if_pos c19] at H
    have c19b0 : decide (x8_1 < (l0_2.length : Int)) = true := decide_eq_true c19
    clear c19
    revert H; refine nd_ fun c20 c20b0 => ne_ fun c21 c21b0 c21b1 H => ?_
    try have c21b2 : (9223372036854775807 < x7_1.size + (rdOf ByteArray.empty l0_2 x8_1).size) = False := eq_false (Nat.not_lt.2 c21)
    clear c20
    have H' := Aside0.mk H
    clear H
    obtain ⟨hcz22_0, hcz22_1, hcz22_2, hcz22_3, hcz22_4⟩ := c5_ BK271.out
    obtain ⟨hfz22_0, hfz22_1, hfz22_2, hfz22_3, hfz22_4⟩ := f5_ BK271.out
    have p282 : 0 ≤ (x8_1 : Int) := ae_
    have q282 : x8_1 < (l0_2.length : Int) := ae_
    obtain ⟨ad282, e282, hx282_0⟩ := Kd.at_string HR0_2.out x8_1 p282 q282
    cases e282
    replace hx282_0 := (HB.out.cell (World.block_lt_of_cell? w _ hx282_0)).trans hx282_0
    replace p282 := eq_true p282
    replace q282 := eq_true q282
    go_wp2
    go_roundg k1
    case measure => have := HK1.out; omega
    case rel => exact ⟨(x7_1 ++ (rdOf ByteArray.empty l0_2 x8_1)), (wrap64 (x8_1 + 1)), vq_, vq_, H', ⟨by have := HK1.out; omega⟩, ⟨mb_ BK271.out⟩, ⟨bs_ GE271.out⟩⟩
   rw [if_neg c19] at H
   have c19b0 : decide (x8_1 < (l0_2.length : Int)) = false := decide_eq_false c19
   clear c19
   revert H; refine ne_ fun c23 c23b0 c23b1 H => ?_
   try have c23b2 : (9223372036854775807 < x7_1.size + t274.size) = False := eq_false (Nat.not_lt.2 c23)
   obtain rfl := Option.some.inj H
   obtain ⟨hcz24_0, hcz24_1, hcz24_2, hcz24_3, hcz24_4⟩ := c5_ BK271.out
   obtain ⟨hfz24_0, hfz24_1, hfz24_2, hfz24_3, hfz24_4⟩ := f5_ BK271.out
   go_wp2
   go_ret
   exact ⟨er_, bs_ GE271.out⟩

/-! ### palaverref01_Value: function 35 -/
def palaverref01_Value.l0 : Nat → ByteArray → Int → Int → Option (Int)
 | 0, _, _, _ => none
 | k + 1, x0, x3, x4 => if x4 < (x0.size : Int) then (if 0 ≤ x4 then (palaverref01_Value.l0 k x0 (wrap64 ((wrap64 (256 * x3)) + (wrap64 (bt x0 x4)))) (wrap64 (x4 + 1))) else (none)) else (some x3)
def palaverref01_Value.f (k : Nat) (a0 : ByteArray) : Option (Int) := palaverref01_Value.l0 k a0 0 0
theorem palaverref01_Value.mono_l : ∀ k, (∀ y0 y1 y2, LeO (palaverref01_Value.l0 k y0 y1 y2) (palaverref01_Value.l0 (k + 1) y0 y1 y2))
 | 0 => fun _ _ _ r h => by simp [palaverref01_Value.l0] at h
 | k + 1 => by
  have ih0 := palaverref01_Value.mono_l k
  ·intro y0 y1 y2
   unfold palaverref01_Value.l0
   repeat' first
   | (with_reducible exact ih0 _ _ _)
   | (with_reducible exact LeO.refl _)
   | (with_reducible exact LeO.none _)
   | (with_reducible refine LeO.ite ?_ ?_)
   | (with_reducible refine LeO.bind ?_ (fun _ => ?_))
   | exact ih0 _ _ _
   | exact LeO.none _
   | refine LeO.ite ?_ ?_
   | refine LeO.bind ?_ (fun _ => ?_)
theorem palaverref01_Value.mono : ∀ a0 k, LeO (palaverref01_Value.f k a0) (palaverref01_Value.f (k + 1) a0) := by
 intro a0 k
 have ih0 := palaverref01_Value.mono_l k
 unfold palaverref01_Value.f
 repeat' first
  | (with_reducible exact ih0 _ _ _)
  | (with_reducible exact LeO.refl _)
  | (with_reducible exact LeO.none _)
  | (with_reducible refine LeO.ite ?_ ?_)
  | (with_reducible refine LeO.bind ?_ (fun _ => ?_))
  | exact ih0 _ _ _
  | exact LeO.none _
  | refine LeO.ite ?_ ?_
  | refine LeO.bind ?_ (fun _ => ?_)
set_option maxHeartbeats 64000000 in
set_option maxRecDepth 100000 in
theorem palaverref01_Value.calls (k : Nat) (a0 : ByteArray) (r : Int) (w : World) (h : palaverref01_Value.f k a0 = some r) :
 Calls Tryd.prog 35 #[.string a0] w fun e w' => e = .returned (.int .i64 r) ∧ Drawn0 w w' := by
 have H : (palaverref01_Value.l0 k a0 0 0) = some r := h
 clear h
 have H' := Aside0.mk H
 clear H
 go_enter Tryd.func35, Tryd.ntmps35
 go_wp2
 go_loopg [3, 4] k (fun kq v3 v4 w' => ∃ (x3_1 : Int) (x4_1 : Int), v3 = .int .i64 x3_1 ∧ v4 = .int .i64 x4_1 ∧ Aside0 (palaverref01_Value.l0 kq a0 x3_1 x4_1 = some r) ∧ Aside0 (kq ≤ k) ∧ Drawn0 w w')
 case atStart => exact ⟨(0), (0), vq_, vq_, H', ⟨Nat.le_refl _⟩, by repeat (first | exact Drawn0.refl _ | apply Drawn0.step)⟩
 case round =>
  clear H'
  obtain ⟨x3_1, x4_1, rfl, rfl, HA, HK1, ⟨m1, rfl⟩⟩ := hrel
  cases gk with
  | zero => exact absurd HA.out (by simp [palaverref01_Value.l0])
  | succ k1 =>
   have H := HA.out
   clear HA
   simp only [palaverref01_Value.l0] at H
   by_cases c2 : x4_1 < (a0.size : Int)
   ·rw [if_pos c2] at H
    have c2b0 : decide (x4_1 < (a0.size : Int)) = true := decide_eq_true c2
    clear c2
    revert H; refine nd_ fun c3 c3b0 H => ?_
    clear c3
    have H' := Aside0.mk H
    clear H
    have p4 := eq_true (ae_ : 0 ≤ (x4_1 : Int))
    have q4 := eq_true (ae_ : x4_1 < (a0.size : Int))
    have hx4 := bt_at a0 x4_1
    go_wp2
    go_roundg k1
    case measure => have := HK1.out; omega
    case rel => exact ⟨(wrap64 ((wrap64 (256 * x3_1)) + (wrap64 (bt a0 x4_1)))), (wrap64 (x4_1 + 1)), vq_, vq_, H', ⟨by have := HK1.out; omega⟩, by repeat (first | exact Drawn0.refl _ | apply Drawn0.step)⟩
   rw [if_neg c2] at H
   have c2b0 : decide (x4_1 < (a0.size : Int)) = false := decide_eq_false c2
   clear c2
   obtain rfl := Option.some.inj H
   go_wp2
   go_ret
   exact ⟨by first | rfl | (simp; done) | (simp [*]; done) | exact congrArg Value.bool (nonempty_l _) | (refine congrArg (Value.int _) ?_; first | omega | (unfold wrap64; omega)), by repeat (first | exact Drawn0.refl _ | apply Drawn0.step)⟩

/-! ### palaverref05_Parts: function 55 -/
mutual
def palaverref05_Parts.l0 : Nat → ByteArray → Int → Option (Int × List ByteArray × List ByteArray × Bool)
 | 0, _, _ => none
 | k + 1, x0, x6 => if x6 ≤ 4 then (if (x0.size : Int) = (wrap64 (2 + (wrap64 (32 * (wrap64 (67 + x6)))))) then (if 0 ≤ 2 then (if 2 ≤ (x0.size : Int) then ((palaverref01_Value.f k (x0.extract 0 2)).bind fun t283 => (palaverref05_Parts.l1 k x0 x6 t283 1 0)) else (none)) else (none)) else (palaverref05_Parts.l0 k x0 (wrap64 (x6 + 1)))) else (some (0, ([] : List ByteArray), ([] : List ByteArray), false))
def palaverref05_Parts.l1 : Nat → ByteArray → Int → Int → Int → Int → Option (Int × List ByteArray × List ByteArray × Bool)
 | 0, _, _, _, _, _ => none
 | k + 1, x0, x6, x7, x8, x9 => if x9 < x6 then (palaverref05_Parts.l1 k x0 x6 x7 (wrap64 (2 * x8)) (wrap64 (x9 + 1))) else (if x7 ≥ x8 then (some (0, ([] : List ByteArray), ([] : List ByteArray), false)) else (palaverref05_Parts.l2 k x0 x7 ([] : List ByteArray) 2))
def palaverref05_Parts.l2 : Nat → ByteArray → Int → List ByteArray → Int → Option (Int × List ByteArray × List ByteArray × Bool)
 | 0, _, _, _, _ => none
 | k + 1, x0, x7, x10, x11 => if x11 < (x0.size : Int) then (if 0 ≤ x11 then (if x11 ≤ (wrap64 (x11 + 32)) then (if (wrap64 (x11 + 32)) ≤ (x0.size : Int) then (if x10.length < 8796093022208 then (palaverref05_Parts.l2 k x0 x7 (x10 ++ [x0.extract (x11 : Int).toNat ((wrap64 (x11 + 32)) : Int).toNat]) (wrap64 (x11 + 32))) else (none)) else (none)) else (none)) else (none)) else (if 67 ≤ x10.length then (some (x7, x10.take 67, x10.drop 67, true)) else (none))
end
def palaverref05_Parts.f (k : Nat) (a0 : ByteArray) : Option (Int × List ByteArray × List ByteArray × Bool) := palaverref05_Parts.l0 k a0 0
theorem palaverref05_Parts.mono_l : ∀ k, (∀ y0 y1, LeO (palaverref05_Parts.l0 k y0 y1) (palaverref05_Parts.l0 (k + 1) y0 y1)) ∧ (∀ y0 y1 y2 y3 y4, LeO (palaverref05_Parts.l1 k y0 y1 y2 y3 y4) (palaverref05_Parts.l1 (k + 1) y0 y1 y2 y3 y4)) ∧ (∀ y0 y1 y2 y3, LeO (palaverref05_Parts.l2 k y0 y1 y2 y3) (palaverref05_Parts.l2 (k + 1) y0 y1 y2 y3))
 | 0 => ⟨fun _ _ r h => by simp [palaverref05_Parts.l0] at h, fun _ _ _ _ _ r h => by simp [palaverref05_Parts.l1] at h, fun _ _ _ _ r h => by simp [palaverref05_Parts.l2] at h⟩
 | k + 1 => by
  obtain ⟨ih0, ih1, ih2⟩ := palaverref05_Parts.mono_l k
  refine ⟨?_, ?_, ?_⟩ <;> intros <;> (first | unfold palaverref05_Parts.l0 | unfold palaverref05_Parts.l1 | unfold palaverref05_Parts.l2) <;> repeat' first
  | (with_reducible exact ih0 _ _)
  | (with_reducible exact ih1 _ _ _ _ _)
  | (with_reducible exact ih2 _ _ _ _)
  | (with_reducible exact palaverref01_Value.mono _ _)
  | (with_reducible exact LeO.refl _)
  | (with_reducible exact LeO.none _)
  | (with_reducible refine LeO.ite ?_ ?_)
  | (with_reducible refine LeO.bind ?_ (fun _ => ?_))
  | exact ih0 _ _
  | exact ih1 _ _ _ _ _
  | exact ih2 _ _ _ _
  | exact palaverref01_Value.mono _ _
  | exact LeO.none _
  | refine LeO.ite ?_ ?_
  | refine LeO.bind ?_ (fun _ => ?_)
theorem palaverref05_Parts.mono : ∀ a0 k, LeO (palaverref05_Parts.f k a0) (palaverref05_Parts.f (k + 1) a0) := by
 intro a0 k
 obtain ⟨ih0, ih1, ih2⟩ := palaverref05_Parts.mono_l k
 unfold palaverref05_Parts.f
 repeat' first
  | (with_reducible exact ih0 _ _)
  | (with_reducible exact ih1 _ _ _ _ _)
  | (with_reducible exact ih2 _ _ _ _)
  | (with_reducible exact palaverref01_Value.mono _ _)
  | (with_reducible exact LeO.refl _)
  | (with_reducible exact LeO.none _)
  | (with_reducible refine LeO.ite ?_ ?_)
  | (with_reducible refine LeO.bind ?_ (fun _ => ?_))
  | exact ih0 _ _
  | exact ih1 _ _ _ _ _
  | exact ih2 _ _ _ _
  | exact palaverref01_Value.mono _ _
  | exact LeO.none _
  | refine LeO.ite ?_ ?_
  | refine LeO.bind ?_ (fun _ => ?_)
set_option maxHeartbeats 64000000 in
set_option maxRecDepth 100000 in
theorem palaverref05_Parts.calls (k : Nat) (a0 : ByteArray) (r1 : Int) (r2 : List ByteArray) (r3 : List ByteArray) (r4 : Bool) (w : World) (h : palaverref05_Parts.f k a0 = some (r1, r2, r3, r4)) :
 Calls Tryd.prog 55 #[.string a0] w fun e w' => ∃ (A1_ A2_ : Option Addr) (c1_ c2_ : Nat), e = .returned (.tuple #[.int .i64 r1, .slice A1_ r2.length c1_, .slice A2_ r3.length c2_, .bool r4]) ∧ Kd.C Kd.string w' A1_ r2.length r2 ∧ r2.length ≤ c1_ ∧ Kd.C Kd.string w' A2_ r3.length r3 ∧ r3.length ≤ c2_ ∧ Below w.heap.size w w' := by
 have HB := Aside0.mk (Below.refl w.heap.size w)
 have H : (palaverref05_Parts.l0 k a0 0) = some (r1, r2, r3, r4) := h
 clear h
 have H' := Aside0.mk H
 clear H
 go_enter Tryd.func55, Tryd.ntmps55
 go_wp2
 repeat (go_quiet (fail); try go_wp2)
 go_loopg [6] k (fun kq v6 w' => ∃ (x6_1 : Int), v6 = .int .i64 x6_1 ∧ Aside0 (palaverref05_Parts.l0 kq a0 x6_1 = some (r1, r2, r3, r4)) ∧ Aside0 (kq ≤ k) ∧ Aside0 (Below w.heap.size w w'))
 case atStart => exact ⟨(0), vq_, H', ⟨Nat.le_refl _⟩, ⟨bl_⟩⟩
 case round =>
  clear H'
  obtain ⟨x6_1, rfl, HA, HK1, HB⟩ := hrel
  cases gk with
  | zero => exact absurd HA.out (by simp [palaverref05_Parts.l0])
  | succ k1 =>
   have H := HA.out
   clear HA
   simp only [palaverref05_Parts.l0] at H
   by_cases c2 : x6_1 ≤ 4
   ·rw [if_pos c2] at H
    have c2b0 : decide (x6_1 ≤ 4) = true := decide_eq_true c2
    clear c2
    by_cases c3 : (a0.size : Int) = (wrap64 (2 + (wrap64 (32 * (wrap64 (67 + x6_1))))))
    ·rw [if_pos c3] at H
     have c3b0 : ((a0.size : Int) == (wrap64 (2 + (wrap64 (32 * (wrap64 (67 + x6_1))))))) = true := beq_iff_eq.mpr c3
     have c3b1 : ((a0.size : Int) != (wrap64 (2 + (wrap64 (32 * (wrap64 (67 + x6_1))))))) = false := bne_eq_false_iff_eq.mpr c3
     clear c3
     revert H; refine ne_ fun c4 c4b0 c4b1 => ne_ fun c5 c5b0 c5b1 => oa_ fun t283 A6 H => ?_
     clear c4 c5
     have H' := Aside0.mk H
     clear H
     go_wp2_with (first | (go_at_call 35; (with_reducible refine (palaverref01_Value.calls k1 (a0.extract 0 2) t283 _ A6.out).mono ?_); rintro e w' ⟨rfl, ⟨nd, rfl⟩⟩))
     go_loopg [8, 9] k1 (fun kq v8 v9 w' => ∃ (x8_2 : Int) (x9_2 : Int), v8 = .int .i64 x8_2 ∧ v9 = .int .i64 x9_2 ∧ Aside0 (palaverref05_Parts.l1 kq a0 x6_1 t283 x8_2 x9_2 = some (r1, r2, r3, r4)) ∧ Aside0 (kq ≤ k1) ∧ Aside0 (Below w.heap.size w w'))
     case atStart => exact ⟨(1), (0), vq_, vq_, H', ⟨Nat.le_refl _⟩, ⟨bl_⟩⟩
     case round =>
      clear H'
      clear c2b0 c3b0 c3b1 c4b0 c4b1 c5b0 c5b1
      obtain ⟨x8_2, x9_2, rfl, rfl, HA, HK2, HB⟩ := hrel
      cases gk with
      | zero => exact absurd HA.out (by simp [palaverref05_Parts.l1])
      | succ k2 =>
       have H := HA.out
       clear HA
       simp only [palaverref05_Parts.l1] at H
       by_cases c7 : x9_2 < x6_1
       ·rw [if_pos c7] at H
        have c7b0 : decide (x9_2 < x6_1) = true := decide_eq_true c7
        clear c7
        have H' := Aside0.mk H
        clear H
        go_wp2
        repeat (go_quiet (fail); try go_wp2)
        go_roundg k2
        case measure => have := HK1.out; have := HK2.out; omega
        case rel => exact ⟨(wrap64 (2 * x8_2)), (wrap64 (x9_2 + 1)), vq_, vq_, H', ⟨by have := HK1.out; have := HK2.out; omega⟩, ⟨bl_⟩⟩
       rw [if_neg c7] at H
       have c7b0 : decide (x9_2 < x6_1) = false := decide_eq_false c7
       clear c7
       by_cases c8 : t283 ≥ x8_2
       ·rw [if_pos c8] at H
        have c8b0 : decide (x8_2 ≤ t283) = true := decide_eq_true c8
        clear c8
        simp only [Option.some.injEq, Prod.mk.injEq] at H
        obtain ⟨rfl, rfl, rfl, rfl⟩ := H
        go_wp2
        repeat (go_quiet (fail); try go_wp2)
        refine bodyPost_ret (results_list (rs := [.tmp 2, .tmp 3, .tmp 4, .tmp 5]) rfl (by simp) (.tmp (.tmp (.tmp (.tmp .nil))))) rfl ?_
        exact ⟨none, none, 0, 0, er_, Kd.C_nil _ _, Nat.le_refl _, Kd.C_nil _ _, Nat.le_refl _, bl_⟩
       rw [if_neg c8] at H
       have c8b0 : decide (x8_2 ≤ t283) = false := decide_eq_false c8
       clear c8
       have H' := Aside0.mk H
       clear H
       go_wp2
       repeat (go_quiet (fail); try go_wp2)
       go_loopg [10, 11] k2 (fun kq v10 v11 w' => ∃ (x10_3 : List ByteArray) (x11_3 : Int), v11 = .int .i64 x11_3 ∧ Aside0 (palaverref05_Parts.l2 kq a0 t283 x10_3 x11_3 = some (r1, r2, r3, r4)) ∧ Aside0 (kq ≤ k2) ∧ Aside0 (Kd.R Kd.string 9 w' w.heap.size (fun _ => True) v10 x10_3) ∧ Aside0 (Below w.heap.size w w'))
       case atStart => exact ⟨(([] : List ByteArray)), (2), vq_, H', ⟨Nat.le_refl _⟩, ⟨by first | exact Kd.R_nil _ _ _ _ _ | exact Kd.N_nil _ _ _ _ _ | exact Kd.V_nil _ _ _ _ _ | exact Kd.Q_nil _ _ _ _ _ | exact Kd.S_nil _ _ _ _ _⟩, ⟨bl_⟩⟩
       case round =>
        clear H'
        clear c7b0 c8b0
        obtain ⟨x10_3, x11_3, rfl, HA, HK3, HO_10, HB⟩ := hrel
        cases gk with
        | zero => exact absurd HA.out (by simp [palaverref05_Parts.l2])
        | succ k3 =>
         have H := HA.out
         clear HA
         simp only [palaverref05_Parts.l2] at H
         by_cases c9 : x11_3 < (a0.size : Int)
         ·rw [if_pos c9] at H
          have c9b0 : decide (x11_3 < (a0.size : Int)) = true := decide_eq_true c9
          clear c9
          revert H; refine ne_ fun c10 c10b0 c10b1 => ne_ fun c11 c11b0 c11b1 => ne_ fun c12 c12b0 c12b1 => nc_ fun c13 H => ?_
          have LMc13 := Aside0.mk c13
          clear c10 c13
          generalize e_ : (x10_3 ++ [a0.extract (x11_3 : Int).toNat ((wrap64 (x11_3 + 32)) : Int).toNat] : List ByteArray) = y284 at H
          have Ny284 := Aside0.mk e_.symm
          clear e_
          have H' := Aside0.mk H
          clear H
          go_wp2_with (first | ((with_reducible refine gate_builtin (b := .append) (xs := #[.tmp 42, .tmp 48]) rfl ?_); at_builtin; refine Kd.R_append Kd.string (w0 := w) w.heap.size rfl (.tmp 42) (.tmp 48) 22 9 (.string ⟨#[]⟩) 16 rfl Tryd.underlying22 info9 rfl (by decide) (by omega) u10 x10_3 (a0.extract (x11_3 : Int).toNat ((wrap64 (x11_3 + 32)) : Int).toNat) [.string (a0.extract (x11_3 : Int).toNat ((wrap64 (x11_3 + 32)) : Int).toNat)] (fun _ => True) (fun _ => False) rfl rfl ?aP (fun _ hk => hk.elim) ?aF ?aO ?aB ?aS ?aL ?_; (case aP => exact rfl); (case aB => exact bl_); (case aF => exact (fun _ _ => trivial)); (case aO => exact (mv_ HO_10.out)); (case aS => exact (below_size bl_)); (case aL => have := LMc13.out; omega); intro v285 w14 ho hb hg hat; rw [← Ny284.out] at ho; have HO286 := Aside0.mk (ho); replace HB := Aside0.mk (hb); clear HO_10; clear ho hb hg hat))
          repeat (go_quiet (fail); try go_wp2)
          go_roundg k3
          case measure => have := HK1.out; have := HK2.out; have := HK3.out; omega
          case rel => exact ⟨(y284), (wrap64 (x11_3 + 32)), vq_, H', ⟨by have := HK1.out; have := HK2.out; have := HK3.out; omega⟩, ⟨mv_ HO286.out⟩, ⟨bl_⟩⟩
         rw [if_neg c9] at H
         have c9b0 : decide (x11_3 < (a0.size : Int)) = false := decide_eq_false c9
         clear c9
         have c67_ : 67 ≤ x10_3.length := by by_cases z_ : 67 ≤ x10_3.length <;> first | exact z_ | (rw [if_neg z_] at H; cases H)
         rw [if_pos c67_] at H
         obtain ⟨A_, c_, e_⟩ := Kd.R_slice HO_10.out
         subst e_
         have hc_ := (Kd.R_reads' HO_10.out).2.1
         obtain ⟨i0_, hi0_, _, hsz_, _⟩ := info_parts info9
         have k1_ := cut_to (P := Tryd.prog) 22 9 .i64 Tryd.underlying22 hi0_ A_ x10_3.length c_ 67 (by decide) (by omega) hc_
         have k2_ := cut_from (P := Tryd.prog) 22 9 .i64 Tryd.underlying22 hi0_ 1 hsz_ A_ x10_3.length c_ 67 (by decide) (by omega)
         obtain ⟨A2_, hA2_⟩ : ∃ z : Option Addr, (if c_ = 67 then A_ else A_.map (·.add (67 * 1))) = z := ⟨_, rfl⟩
         replace k2_ : ∀ W : World, (Instr.slice 22 (.slice A_ x10_3.length c_) (some (.int .i64 67)) none none).run Tryd.prog W = .ok (.slice A2_ (x10_3.length - 67) (c_ - 67)) W := by intro W; rw [k2_ W]; show Result.ok (Value.slice (if c_ = 67 then A_ else A_.map (·.add (67 * 1))) _ _) W = _; rw [hA2_]; rfl
         replace k1_ : ∀ W : World, (Instr.slice 22 (.slice A_ x10_3.length c_) none (some (.int .i64 67)) none).run Tryd.prog W = .ok (.slice A_ 67 c_) W := k1_
         simp only [Option.some.injEq, Prod.mk.injEq] at H
         obtain ⟨rfl, rfl, rfl, rfl⟩ := H
         go_wp2
         repeat (go_quiet (fail); try go_wp2)
         refine bodyPost_ret (results_list (rs := [.tmp 2, .tmp 3, .tmp 4, .tmp 5]) rfl (by simp) (.tmp (.tmp (.tmp (.tmp .nil))))) rfl ?_
         have hC_ := (Kd.R_reads' HO_10.out).2.2
         have l1_ : (x10_3.take 67).length = 67 := by rw [List.length_take]; omega
         have l2_ : (x10_3.drop 67).length = x10_3.length - 67 := List.length_drop
         have hT_ := Kd.C_take (m := 67) hC_ c67_
         have hD_ := Kd.C_drop (m := 67) hC_ c67_ hc_
         rw [show (if c_ = 67 then A_ else A_.map (·.add (67 * Kd.string.sz))) = A2_ from hA2_] at hD_
         exact ⟨A_, A2_, c_, c_ - 67, by rw [l1_, l2_]; rfl, by (with_reducible repeat (first | apply Kd.C_alloc | apply Kd.C_drewN | apply Kd.C_drew)); exact hT_, by omega, by (with_reducible repeat (first | apply Kd.C_alloc | apply Kd.C_drewN | apply Kd.C_drew)); exact hD_, by omega, bl_⟩
    rw [if_neg c3] at H
    have c3b0 : ((a0.size : Int) == (wrap64 (2 + (wrap64 (32 * (wrap64 (67 + x6_1))))))) = false := beq_eq_false_iff_ne.mpr c3
    have c3b1 : ((a0.size : Int) != (wrap64 (2 + (wrap64 (32 * (wrap64 (67 + x6_1))))))) = true := bne_iff_ne.mpr c3
    have H' := Aside0.mk H
    clear H
    go_wp2
    repeat (go_quiet (fail); try go_wp2)
    go_roundg k1
    case measure => have := HK1.out; omega
    case rel => exact ⟨(wrap64 (x6_1 + 1)), vq_, H', ⟨by have := HK1.out; omega⟩, ⟨bl_⟩⟩
   rw [if_neg c2] at H
   have c2b0 : decide (x6_1 ≤ 4) = false := decide_eq_false c2
   clear c2
   simp only [Option.some.injEq, Prod.mk.injEq] at H
   obtain ⟨rfl, rfl, rfl, rfl⟩ := H
   go_wp2
   repeat (go_quiet (fail); try go_wp2)
   refine bodyPost_ret (results_list (rs := [.tmp 2, .tmp 3, .tmp 4, .tmp 5]) rfl (by simp) (.tmp (.tmp (.tmp (.tmp .nil))))) rfl ?_
   exact ⟨none, none, 0, 0, er_, Kd.C_nil _ _, Nat.le_refl _, Kd.C_nil _ _, Nat.le_refl _, bl_⟩

/-! ### palaverref03_Digits: function 80 -/
mutual
def palaverref03_Digits.l0 : Nat → ByteArray → List Int → Int → Int → Option (List Int)
 | 0, _, _, _, _ => none
 | k + 1, x0, x3, x4, x5 => if x5 < (x0.size : Int) then (if 0 ≤ x5 then ((some (([wrap64 (Int.tdiv (wrap64 (bt x0 x5)) 16), Int.tmod (wrap64 (bt x0 x5)) 16] : List Int) : List Int)).bind fun y287 => (if x3.length + y287.length < 17592186044416 then (palaverref03_Digits.l0 k x0 (x3 ++ y287) x4 (wrap64 (x5 + 1))) else (none))) else (none)) else (palaverref03_Digits.l1 k x3 x4 0)
def palaverref03_Digits.l1 : Nat → List Int → Int → Int → Option (List Int)
 | 0, _, _, _ => none
 | k + 1, x3, x4, x6 => if x6 < (x3.length : Int) then (if 0 ≤ x6 then (palaverref03_Digits.l1 k x3 (wrap64 ((wrap64 (x4 + 15)) - (rd x3 x6))) (wrap64 (x6 + 1))) else (none)) else ((some (([wrap64 (Int.tdiv x4 256), Int.tmod (wrap64 (Int.tdiv x4 16)) 16, Int.tmod x4 16] : List Int) : List Int)).bind fun y294 => (if x3.length + y294.length < 17592186044416 then (some (x3 ++ y294)) else (none)))
end
def palaverref03_Digits.f (k : Nat) (a0 : ByteArray) : Option (List Int) := palaverref03_Digits.l0 k a0 ([] : List Int) 0 0
theorem palaverref03_Digits.mono_l : ∀ k, (∀ y0 y1 y2 y3, LeO (palaverref03_Digits.l0 k y0 y1 y2 y3) (palaverref03_Digits.l0 (k + 1) y0 y1 y2 y3)) ∧ (∀ y0 y1 y2, LeO (palaverref03_Digits.l1 k y0 y1 y2) (palaverref03_Digits.l1 (k + 1) y0 y1 y2))
 | 0 => ⟨fun _ _ _ _ r h => by simp [palaverref03_Digits.l0] at h, fun _ _ _ r h => by simp [palaverref03_Digits.l1] at h⟩
 | k + 1 => by
  obtain ⟨ih0, ih1⟩ := palaverref03_Digits.mono_l k
  refine ⟨?_, ?_⟩ <;> intros <;> (first | unfold palaverref03_Digits.l0 | unfold palaverref03_Digits.l1) <;> repeat' first
  | (with_reducible exact ih0 _ _ _ _)
  | (with_reducible exact ih1 _ _ _)
  | (with_reducible exact LeO.refl _)
  | (with_reducible exact LeO.none _)
  | (with_reducible refine LeO.ite ?_ ?_)
  | (with_reducible refine LeO.bind ?_ (fun _ => ?_))
  | exact ih0 _ _ _ _
  | exact ih1 _ _ _
  | exact LeO.none _
  | refine LeO.ite ?_ ?_
  | refine LeO.bind ?_ (fun _ => ?_)
theorem palaverref03_Digits.mono : ∀ a0 k, LeO (palaverref03_Digits.f k a0) (palaverref03_Digits.f (k + 1) a0) := by
 intro a0 k
 obtain ⟨ih0, ih1⟩ := palaverref03_Digits.mono_l k
 unfold palaverref03_Digits.f
 repeat' first
  | (with_reducible exact ih0 _ _ _ _)
  | (with_reducible exact ih1 _ _ _)
  | (with_reducible exact LeO.refl _)
  | (with_reducible exact LeO.none _)
  | (with_reducible refine LeO.ite ?_ ?_)
  | (with_reducible refine LeO.bind ?_ (fun _ => ?_))
  | exact ih0 _ _ _ _
  | exact ih1 _ _ _
  | exact LeO.none _
  | refine LeO.ite ?_ ?_
  | refine LeO.bind ?_ (fun _ => ?_)
def palaverref03_Digits.T6 : Bool × List (List Nat × List Nat) := (true, [([], []), ([], []), ([], []), ([1, 2], [1, 2]), ([3], [3]), ([4], [4]), ([], []), ([], []), ([6, 7], [6, 7]), ([8], [8]), ([9], [9]), ([5, 10], [5, 10]), ([0, 11], [0, 11]), ([12, 12, 0, 1, 2, 3, 4, 5, 6, 7, 8, 9, 10, 11, 12], [0, 12])])
def palaverref03_Digits.B6 : List Nat := [0, 0, 0, 6, 14, 30, 0, 0, 192, 448, 960, 2046, 4095, 8191]
theorem palaverref03_Digits.tab6 : rtab .any (opsOf Tryd.f80 6) = palaverref03_Digits.T6 := by kernel_rfl
theorem palaverref03_Digits.bits6 : waitsOk palaverref03_Digits.T6.2 palaverref03_Digits.B6 = true := by kernel_rfl
set_option maxHeartbeats 64000000 in
set_option maxRecDepth 100000 in
theorem palaverref03_Digits.calls (k : Nat) (a0 : ByteArray) (r : List Int) (w : World) (h : palaverref03_Digits.f k a0 = some r) :
 Calls Tryd.prog 80 #[.string a0] w fun e w' => ∃ v0_ : Value, e = .returned (v0_) ∧ Kd.R (Kd.int .i64) 3 w' w.heap.size (fun _ => True) v0_ r ∧ Below w.heap.size w w' := by
 have HB := Aside0.mk (Below.refl w.heap.size w)
 have H : (palaverref03_Digits.l0 k a0 ([] : List Int) 0 0) = some r := h
 clear h
 have H' := Aside0.mk H
 clear H
 go_enter Tryd.func80, Tryd.ntmps80
 go_wp2
 go_loopg [3, 5] k (fun kq v3 v5 w' => ∃ (x3_1 : List Int) (x5_1 : Int), v5 = .int .i64 x5_1 ∧ Aside0 (palaverref03_Digits.l0 kq a0 x3_1 0 x5_1 = some r) ∧ Aside0 (kq ≤ k) ∧ Aside0 (Kd.R (Kd.int .i64) 3 w' w.heap.size (fun _ => True) v3 x3_1) ∧ Aside0 (Below w.heap.size w w'))
 case atStart => exact ⟨(([] : List Int)), (0), vq_, H', ⟨Nat.le_refl _⟩, ⟨by first | exact Kd.R_nil _ _ _ _ _ | exact Kd.N_nil _ _ _ _ _ | exact Kd.V_nil _ _ _ _ _ | exact Kd.Q_nil _ _ _ _ _ | exact Kd.S_nil _ _ _ _ _⟩, ⟨bl_⟩⟩
 case round =>
  clear H'
  obtain ⟨x3_1, x5_1, rfl, HA, HK1, HO_3, HB⟩ := hrel
  cases gk with
  | zero => exact absurd HA.out (by simp [palaverref03_Digits.l0])
  | succ k1 =>
   have H := HA.out
   clear HA
   simp only [palaverref03_Digits.l0] at H
   by_cases c2 : x5_1 < (a0.size : Int)
   ·rw [if_pos c2] at H
    have c2b0 : decide (x5_1 < (a0.size : Int)) = true := decide_eq_true c2
    clear c2
    revert H; refine nd_ fun c3 c3b0 => oy_ fun y287 Ny287 => nc_ fun c6 H => ?_
    have LMc6 := Aside0.mk c6
    clear c3 c6
    generalize e_ : (x3_1 ++ y287 : List Int) = y290 at H
    have Ny290 := Aside0.mk e_.symm
    clear e_
    have H' := Aside0.mk H
    clear H
    try go_wp2
    replace HB := Aside0.mk (below_drew1 HB.out)
    replace HO_3 := Aside0.mk (Kd.R_drew HO_3.out)
    have p4 := eq_true (ae_ : 0 ≤ (x5_1 : Int))
    have q4 := eq_true (ae_ : x5_1 < (a0.size : Int))
    have hx4 := bt_at a0 x5_1
    have p5 := eq_true (ae_ : 0 ≤ (x5_1 : Int))
    have q5 := eq_true (ae_ : x5_1 < (a0.size : Int))
    have hx5 := bt_at a0 x5_1
    refine start_ (n := 14) (S := fun w' => True) (ds := []) #[false, false, false, false, false, false, false, false, false, false, false, false, false, false] (by kernel_rfl) rfl rfl trivial (fun hHeld => ?_); refine with_tabW palaverref03_Digits.tab6 palaverref03_Digits.bits6 (fun HT_ HW_ => ?_)
    generalize wr.drew = w7 at HO_3 HB hHeld ⊢
    refine runs_ [(0, some 13), (1, some 14), (2, some 15), (6, some 19), (7, some 20)] ?_
    iterate 5 (refine pL_ ?_)
    refine runsE_ ?_
    refine take_ (i := 3) (N := some 16) (v := ?_) (a' := ?_) #[true, true, true, true, false, false, true, true, false, false, false, false, false, false] rfl rfl (take_ofW HT_.out HW_.out (by kernel_rfl)) (fun _ _ _ h => h) (Or.inl ⟨by rfl, ?_⟩) hHeld ?_ ?_
    rotate_left
    ·intro w' _
     go_simp
     with_reducible rfl
    rotate_left
    ·simp only [pr_]
     rfl
    refine runs_ [(4, some 17), (5, some 18)] ?_
    iterate 2 (refine pL_ ?_)
    refine runsE_ ?_
    refine take_ (i := 8) (N := some 21) (v := ?_) (a' := ?_) #[true, true, true, true, true, true, true, true, true, false, false, false, false, false] rfl rfl (take_ofW HT_.out HW_.out (by kernel_rfl)) (fun _ _ _ h => h) (Or.inl ⟨by rfl, ?_⟩) hHeld ?_ ?_
    rotate_left
    ·intro w' _
     go_simp
     with_reducible rfl
    rotate_left
    ·simp only [pr_]
     rfl
    refine runs_ [(9, some 22), (10, some 23)] ?_
    iterate 2 (refine pL_ ?_)
    refine runsE_ ?_
    refine one_ (i := 11) (N := some 24) #[true, true, true, true, true, true, true, true, true, true, true, true, false, false] rfl rfl (one_of HT_.out (by kernel_rfl)) (by decide) (fun K hK => ?_)
    refine Kd.R_lit_step (Kd.int .i64) _ 3 ?hg (N := 24) ?hd (xs := ([wrap64 (Int.tdiv (wrap64 (bt a0 x5_1)) 16), Int.tmod (wrap64 (bt a0 x5_1)) 16] : List Int)) (inner := [.int .i64 (wrap64 (Int.tdiv (wrap64 (bt a0 x5_1)) 16)), .int .i64 (Int.tmod (wrap64 (bt a0 x5_1)) 16)]) (ok := fun _ => True) (okp := fun _ => True) ?hr ?hp (fun _ hk => hk) trivial (Below.refl _ _) (Nat.le_refl _) (by simp) ?_; (case hd => rfl); (case hg => rfl); (case hr => exact gr_); (case hp => exact (Reps.one (show Kd.M (Kd.int .i64) _ _ _ (wrap64 (Int.tdiv (wrap64 (bt a0 x5_1)) 16)) [.int .i64 (wrap64 (Int.tdiv (wrap64 (bt a0 x5_1)) 16))] from rfl) (Reps.one (show Kd.M (Kd.int .i64) _ _ _ (Int.tmod (wrap64 (bt a0 x5_1)) 16) [.int .i64 (Int.tmod (wrap64 (bt a0 x5_1)) 16)] from rfl) (Reps.none _ _))))
    intro v288 w8 ho9 hb hg_ hnew_
    clear hg_ hnew_
    (first | rw [← Ny287.out] at ho9 | (simp only [Int.reduceToNat] at ho9; rw [← Ny287.out] at ho9))
    have HO289 := Aside0.mk (Kd.R_lower (Kd.R_new' ho9 (Kd.R_lt (mv_ HO_3.out))) (below_size bl_))
    replace HB := Aside0.mk (below_step bl_ hb)
    replace HO_3 := Aside0.mk (Kd.R_elder' (mv_ HO_3.out) (Kd.R_base ho9) hb)
    clear hb ho9
    obtain ⟨Ao11, co11, eo11⟩ := Kd.R_slice HO289.out
    (first | subst eo11 | (injection eo11 with f1_ f2_ f3_; have f4_ := f1_.symm; have f5_ := f3_.symm; clear f1_ f2_ f3_; subst f4_; subst f5_))
    refine hK.out _ _ trivial (fun hHeld => ?_)
    clear hK K
    refine norm_ (a' := ?_) ?_ ?_
    rotate_left
    ·show Act.put _ (some 24) _ = _
     simp only [pr_]
     rfl
    refine one_ (i := 12) (N := some 25) #[true, true, true, true, true, true, true, true, true, true, true, true, true, false] rfl rfl (one_of HT_.out (by kernel_rfl)) (by decide) (fun K hK => ?_)
    refine Kd.R_append_rows_step (Kd.int .i64) (w0 := w) w.heap.size (by rfl) (.tmp 13) (.tmp 24) 116 3 (.int .i64 0) 8 rfl Tryd.underlying116 info3 rfl (by decide) (by omega) u3 x3_1 y287 _ _ _ (fun k_ => some k_ ≠ (.slice Ao11 y287.length co11 : Value).ownBlock) (fun _ => False) rfl rfl ?aO ?aR (fun _ _ h => h) (fun _ h => h.elim) ?aF ?aB ?aS ?aL ?_
    (case aR => repeat (first | exact (Kd.R_reads' HO289.out).2.2 | (with_reducible refine Kd.C_alloc ?_ _) | (with_reducible refine Kd.C_drewN ?_ _) | (with_reducible refine Kd.C_drew ?_)))
    (case aB => exact bl_)
    (case aF => exact (fun k_ hk => Kd.fresh' (Kd.R_lt (mv_ HO289.out)) k_ hk))
    (case aO => exact (by refine mv_ ?_; exact Kd.R_mono HO_3.out (fun _ hk => hk.2)))
    (case aS => exact (below_size bl_))
    (case aL => have := LMc6.out; omega)
    intro v291 w10 ho hb hg hat
    rw [← Ny290.out] at ho
    have HO292 := Aside0.mk (ho)
    replace HB := Aside0.mk (hb)
    replace HO289 := Aside0.mk (Kd.R_after (ok := (fun _ => True)) (mv_ HO289.out) hg hat)
    clear HO_3
    clear ho hb hg hat
    refine hK.out _ _ trivial (fun hHeld => ?_)
    clear hK K
    refine norm_ (a' := ?_) ?_ ?_
    rotate_left
    ·show Act.put _ (some 25) _ = _
     simp only [pr_]
     rfl
    refine pure_ (i := 13) (N := some 3) (v := ?_) (a' := ?_) #[true, true, true, true, true, true, true, true, true, true, true, true, true, true] rfl rfl (any_of HT_.out (by kernel_rfl)) (fun _ _ _ h => h) (Or.inl ⟨by rfl, ?_⟩) ?_ ?_
    rotate_left
    ·intro w'
     go_simp
     with_reducible rfl
    rotate_left
    ·simp only [pr_]
     rfl
    refine done_ (done_of HT_.out (by kernel_rfl)) ?_
    try go_wp2
    go_roundg k1
    case measure => have := HK1.out; omega
    case rel => exact ⟨(y290), (wrap64 (x5_1 + 1)), vq_, H', ⟨by have := HK1.out; omega⟩, ⟨by refine mv_ ?_; exact Kd.R_mono HO292.out (fun _ hk => trivial)⟩, ⟨bl_⟩⟩
   rw [if_neg c2] at H
   have c2b0 : decide (x5_1 < (a0.size : Int)) = false := decide_eq_false c2
   clear c2
   have H' := Aside0.mk H
   clear H
   go_wp2
   go_loopg [4, 6] k1 (fun kq v4 v6 w' => ∃ (x4_2 : Int) (x6_2 : Int), v4 = .int .i64 x4_2 ∧ v6 = .int .i64 x6_2 ∧ Aside0 (palaverref03_Digits.l1 kq x3_1 x4_2 x6_2 = some r) ∧ Aside0 (kq ≤ k1) ∧ Aside0 (Kd.R (Kd.int .i64) 3 w' w.heap.size (fun _ => True) u3 x3_1) ∧ Aside0 (Below w.heap.size w w'))
   case atStart => exact ⟨(0), (0), vq_, vq_, H', ⟨Nat.le_refl _⟩, ⟨mv_ HO_3.out⟩, ⟨bl_⟩⟩
   case round =>
    clear H'
    clear c2b0
    obtain ⟨x4_2, x6_2, rfl, rfl, HA, HK2, HO_3, HB⟩ := hrel
    cases gk with
    | zero => exact absurd HA.out (by simp [palaverref03_Digits.l1])
    | succ k2 =>
     have H := HA.out
     clear HA
     simp only [palaverref03_Digits.l1] at H
     by_cases c12 : x6_2 < (x3_1.length : Int)
     ·rw [if_pos c12] at H
      have c12b0 : decide (x6_2 < (x3_1.length : Int)) = true := decide_eq_true c12
      clear c12
      revert H; refine nd_ fun c13 c13b0 H => ?_
      clear c13
      have H' := Aside0.mk H
      clear H
      obtain ⟨Ao14, co14, eo14⟩ := Kd.R_slice HO_3.out
      subst eo14
      have p293 : 0 ≤ (x6_2 : Int) := ae_
      have q293 : x6_2 < (x3_1.length : Int) := ae_
      obtain ⟨ad293, e293, hx293_0⟩ := Kd.at_int (Kd.R_reads' HO_3.out).2.2 x6_2 p293 q293
      cases e293
      replace p293 := eq_true p293
      replace q293 := eq_true q293
      go_wp2
      go_roundg k2
      case measure => have := HK1.out; have := HK2.out; omega
      case rel => exact ⟨(wrap64 ((wrap64 (x4_2 + 15)) - (rd x3_1 x6_2))), (wrap64 (x6_2 + 1)), vq_, vq_, H', ⟨by have := HK1.out; have := HK2.out; omega⟩, ⟨mv_ HO_3.out⟩, ⟨bl_⟩⟩
     rw [if_neg c12] at H
     have c12b0 : decide (x6_2 < (x3_1.length : Int)) = false := decide_eq_false c12
     clear c12
     revert H; refine oy_ fun y294 Ny294 => nc_ fun c15 H => ?_
     have LMc15 := Aside0.mk c15
     clear c15
     generalize e_ : (x3_1 ++ y294 : List Int) = y297 at H
     have Ny297 := Aside0.mk e_.symm
     clear e_
     obtain rfl := Option.some.inj H
     obtain ⟨Ao16, co16, eo16⟩ := Kd.R_slice HO_3.out
     subst eo16
     go_wp2_with (first | ((with_reducible refine gate_dst (N := 47) rfl ?_); refine Kd.R_lit (Kd.int .i64) _ 3 ?hg (N := 47) ?hd (xs := ([wrap64 (Int.tdiv x4_2 256), Int.tmod (wrap64 (Int.tdiv x4_2 16)) 16, Int.tmod x4_2 16] : List Int)) (inner := [.int .i64 (wrap64 (Int.tdiv x4_2 256)), .int .i64 (Int.tmod (wrap64 (Int.tdiv x4_2 16)) 16), .int .i64 (Int.tmod x4_2 16)]) (ok := fun _ => True) (okp := fun _ => True) ?hr ?hp (fun _ hk => hk) trivial (Below.refl _ _) (Nat.le_refl _) (by simp) ?_; (case hd => rfl); (case hg => rfl); (case hr => exact gr_); (case hp => exact (Reps.one (show Kd.M (Kd.int .i64) _ _ _ (wrap64 (Int.tdiv x4_2 256)) [.int .i64 (wrap64 (Int.tdiv x4_2 256))] from rfl) (Reps.one (show Kd.M (Kd.int .i64) _ _ _ (Int.tmod (wrap64 (Int.tdiv x4_2 16)) 16) [.int .i64 (Int.tmod (wrap64 (Int.tdiv x4_2 16)) 16)] from rfl) (Reps.one (show Kd.M (Kd.int .i64) _ _ _ (Int.tmod x4_2 16) [.int .i64 (Int.tmod x4_2 16)] from rfl) (Reps.none _ _))))); intro v295 w17 ho18 hb hg_ hnew_; clear hg_ hnew_; (first | rw [← Ny294.out] at ho18 | (simp only [Int.reduceToNat] at ho18; rw [← Ny294.out] at ho18)); have HO296 := Aside0.mk (Kd.R_lower (Kd.R_new' ho18 (Kd.R_lt (mv_ HO_3.out))) (below_size bl_)); replace HB := Aside0.mk (below_step bl_ hb); replace HO_3 := Aside0.mk (Kd.R_elder' (mv_ HO_3.out) (Kd.R_base ho18) hb); clear hb ho18; obtain ⟨Ao20, co20, eo20⟩ := Kd.R_slice HO296.out; subst eo20) | ((with_reducible refine gate_builtin (b := .append) (xs := #[.tmp 39, .tmp 47]) rfl ?_); at_builtin; refine Kd.R_append_rows (Kd.int .i64) (w0 := w) w.heap.size rfl (.tmp 39) (.tmp 47) 116 3 (.int .i64 0) 8 rfl Tryd.underlying116 info3 rfl (by decide) (by omega) (.slice Ao16 x3_1.length co16) x3_1 y294 _ _ _ (fun k_ => some k_ ≠ (.slice Ao20 y294.length co20 : Value).ownBlock) (fun _ => False) rfl rfl ?aO ?aR (fun _ _ h => h) (fun _ h => h.elim) ?aF ?aB ?aS ?aL ?_; (case aR => repeat (first | exact (Kd.R_reads' HO296.out).2.2 | (with_reducible refine Kd.C_alloc ?_ _) | (with_reducible refine Kd.C_drewN ?_ _) | (with_reducible refine Kd.C_drew ?_))); (case aB => exact bl_); (case aF => exact (fun k_ hk => Kd.fresh' (Kd.R_lt (mv_ HO296.out)) k_ hk)); (case aO => exact (by refine mv_ ?_; exact Kd.R_mono HO_3.out (fun _ hk => hk.2))); (case aS => exact (below_size bl_)); (case aL => have := LMc15.out; omega); intro v298 w19 ho hb hg hat; rw [← Ny297.out] at ho; have HO299 := Aside0.mk (ho); replace HB := Aside0.mk (hb); replace HO296 := Aside0.mk (Kd.R_after (ok := (fun _ => True)) (mv_ HO296.out) hg hat); clear HO_3; clear ho hb hg hat))
     go_ret
     exact ⟨_, er_, by refine mv_ ?_; exact Kd.R_mono HO299.out (fun _ hk => trivial), bl_⟩

/-! ### palaverref03_Step: function 81 -/
def palaverref03_Step.f (k : Nat) (a0 : Int) (a1 : ByteArray) : Option (ByteArray) := (palaverref01_Number.f k (Int.tmod (wrap64 ((Int.tmod a0 256) + 256)) 256) 1).bind fun bt300 => ((palaverref02_Tag.f k 1 (([bt300.1, a1] : List ByteArray))).bind fun t305 => (some t305))
theorem palaverref03_Step.mono : ∀ a0 a1 k, LeO (palaverref03_Step.f k a0 a1) (palaverref03_Step.f (k + 1) a0 a1) := by
 intro a0 a1 k
 unfold palaverref03_Step.f
 repeat' first
  | (with_reducible exact palaverref01_Number.mono _ _ _)
  | (with_reducible exact palaverref02_Tag.mono _ _ _)
  | (with_reducible exact LeO.refl _)
  | (with_reducible exact LeO.none _)
  | (with_reducible refine LeO.ite ?_ ?_)
  | (with_reducible refine LeO.bind ?_ (fun _ => ?_))
  | exact palaverref01_Number.mono _ _ _
  | exact palaverref02_Tag.mono _ _ _
  | exact LeO.none _
  | refine LeO.ite ?_ ?_
  | refine LeO.bind ?_ (fun _ => ?_)
set_option maxHeartbeats 64000000 in
set_option maxRecDepth 100000 in
theorem palaverref03_Step.calls (k : Nat) (a0 : Int) (a1 : ByteArray) (r : ByteArray) (w : World) (h : palaverref03_Step.f k a0 a1 = some r) :
 Calls Tryd.prog 81 #[.int .i64 a0, .string a1] w fun e w' => e = .returned (.string r) ∧ Below w.heap.size w w' := by
 have HB := Aside0.mk (Below.refl w.heap.size w)
 have H : ((palaverref01_Number.f k (Int.tmod (wrap64 ((Int.tmod a0 256) + 256)) 256) 1).bind fun bt300 => ((palaverref02_Tag.f k 1 (([bt300.1, a1] : List ByteArray))).bind fun t305 => (some t305))) = some r := h
 clear h
 replace H := ob_ H
 obtain ⟨⟨t300, t301⟩, A30, H⟩ := H
 replace H : ((palaverref02_Tag.f k 1 (([t300, a1] : List ByteArray))).bind fun t305 => (some t305)) = some r := H
 have A3 := Aside0.mk A30
 clear A30
 generalize e_ : (([t300, a1] : List ByteArray) : List ByteArray) = y302 at H
 have Ny302 := Aside0.mk e_.symm
 clear e_
 revert H; refine oa_ fun t305 A4 H => ?_
 obtain rfl := Option.some.inj H
 go_enter Tryd.func81, Tryd.ntmps81
 go_wp2_with (first | ((with_reducible refine gate_callee (f := 47) rfl ?_); refine gL_ 12 Tryd.func47 #[.int .i64 (Int.tmod (wrap64 ((Int.tmod a0 256) + 256)) 256), .int .i64 1] ?_; (with_reducible refine (palaverref01_Number.calls k (Int.tmod (wrap64 ((Int.tmod a0 256) + 256)) 256) 1 t300 t301 _ A3.out).mono ?_); rintro e w5 ⟨rfl, hb⟩; refine ⟨_, rfl, ?_⟩; replace HB := Aside0.mk (below_step bl_ hb); clear hb) | ((with_reducible refine gate_dst (N := 17) rfl ?_); refine Kd.R_lit Kd.string _ 9 ?hg (N := 17) ?hd (xs := ([t300, a1] : List ByteArray)) (inner := [.string t300, .string a1]) (ok := fun _ => True) (okp := fun _ => True) ?hr ?hp (fun _ hk => hk) trivial (Below.refl _ _) (Nat.le_refl _) (by simp) ?_; (case hd => rfl); (case hg => rfl); (case hr => exact gr_); (case hp => exact (Reps.one (show Kd.M Kd.string _ _ _ t300 [.string t300] from rfl) (Reps.one (show Kd.M Kd.string _ _ _ a1 [.string a1] from rfl) (Reps.none _ _)))); intro v303 w6 ho7 hb hg_ hnew_; clear hg_ hnew_; (first | rw [← Ny302.out] at ho7 | (simp only [Int.reduceToNat] at ho7; rw [← Ny302.out] at ho7)); have HO304 := Aside0.mk (Kd.R_lower ho7 (below_size bl_)); replace HB := Aside0.mk (below_step bl_ hb); clear hb ho7; obtain ⟨Ao8, co8, eo8⟩ := Kd.R_slice HO304.out; subst eo8) | ((with_reducible refine gate_callee (f := 37) rfl ?_); refine gL_ 18 Tryd.func37 #[.int .i64 1, .slice Ao8 y302.length co8] ?_; (with_reducible refine (palaverref02_Tag.calls k 1 _ _ y302 t305 _ ?side1 ?side2 A4.out).mono ?_); (case side1 => repeat (first | exact (Kd.R_reads' HO304.out).2.2 | (with_reducible refine Kd.C_alloc ?_ _) | (with_reducible refine Kd.C_drewN ?_ _) | (with_reducible refine Kd.C_drew ?_))); (case side2 => exact (Kd.R_reads' HO304.out).2.1); rintro e w9 ⟨rfl, hb⟩; refine ⟨_, rfl, ?_⟩; replace HB := Aside0.mk (below_step bl_ hb); replace HO304 := Aside0.mk (Kd.R_below (mv_ HO304.out) hb); clear hb))
 go_ret
 exact ⟨er_, bl_⟩

/-! ### palaverref03_Recover: function 56 -/
mutual
def palaverref03_Recover.l0 : Nat → List ByteArray → List Int → List ByteArray → List ByteArray → Int → Option (ByteArray × List ByteArray)
 | 0, _, _, _, _, _ => none
 | k + 1, x1, x6, x7, x8, x9 => if x9 < 67 then (if 0 ≤ x9 then (if x9 < (x1.length : Int) then ((palaverref01_Number.f k x9 1).bind fun bt315 => (if x9 < (x6.length : Int) then (palaverref03_Recover.l1 k x1 x6 x7 x8 x9 (rdOf ByteArray.empty x1 x9) bt315.1 (rd x6 x9)) else (none))) else (none)) else (none)) else ((palaverref02_Tag.f k 3 x7).bind fun t309 => ((palaverref02_Input.f k 3 x7).bind fun t310 => (if x8.length < 8796093022208 then (some (t309, (x8 ++ [t310]))) else (none))))
def palaverref03_Recover.l1 : Nat → List ByteArray → List Int → List ByteArray → List ByteArray → Int → ByteArray → ByteArray → Int → Option (ByteArray × List ByteArray)
 | 0, _, _, _, _, _, _, _, _ => none
 | k + 1, x1, x6, x7, x8, x9, x10, x11, x13 => if x13 < 15 then ((palaverref02_Input.f k 1 (([x11, x10] : List ByteArray))).bind fun t321 => (if x8.length < 8796093022208 then ((palaverref03_Step.f k x9 x10).bind fun t325 => (palaverref03_Recover.l1 k x1 x6 x7 (x8 ++ [t321]) x9 t325 x11 (wrap64 (x13 + 1)))) else (none))) else (if x7.length < 8796093022208 then (palaverref03_Recover.l0 k x1 x6 (x7 ++ [x10]) x8 (wrap64 (x9 + 1))) else (none))
end
def palaverref03_Recover.f (k : Nat) (a0 : ByteArray) (l1 : List ByteArray) : Option (ByteArray × List ByteArray) := (palaverref03_Digits.f k a0).bind fun t306 => (palaverref03_Recover.l0 k l1 t306 ([] : List ByteArray) ([] : List ByteArray) 0)
theorem palaverref03_Recover.mono_l : ∀ k, (∀ y0 y1 y2 y3 y4, LeO (palaverref03_Recover.l0 k y0 y1 y2 y3 y4) (palaverref03_Recover.l0 (k + 1) y0 y1 y2 y3 y4)) ∧ (∀ y0 y1 y2 y3 y4 y5 y6 y7, LeO (palaverref03_Recover.l1 k y0 y1 y2 y3 y4 y5 y6 y7) (palaverref03_Recover.l1 (k + 1) y0 y1 y2 y3 y4 y5 y6 y7))
 | 0 => ⟨fun _ _ _ _ _ r h => by simp [palaverref03_Recover.l0] at h, fun _ _ _ _ _ _ _ _ r h => by simp [palaverref03_Recover.l1] at h⟩
 | k + 1 => by
  obtain ⟨ih0, ih1⟩ := palaverref03_Recover.mono_l k
  refine ⟨?_, ?_⟩ <;> intros <;> (first | unfold palaverref03_Recover.l0 | unfold palaverref03_Recover.l1) <;> repeat' first
  | (with_reducible exact ih0 _ _ _ _ _)
  | (with_reducible exact ih1 _ _ _ _ _ _ _ _)
  | (with_reducible exact palaverref01_Number.mono _ _ _)
  | (with_reducible exact palaverref02_Input.mono _ _ _)
  | (with_reducible exact palaverref02_Tag.mono _ _ _)
  | (with_reducible exact palaverref03_Digits.mono _ _)
  | (with_reducible exact palaverref03_Step.mono _ _ _)
  | (with_reducible exact LeO.refl _)
  | (with_reducible exact LeO.none _)
  | (with_reducible refine LeO.ite ?_ ?_)
  | (with_reducible refine LeO.bind ?_ (fun _ => ?_))
  | exact ih0 _ _ _ _ _
  | exact ih1 _ _ _ _ _ _ _ _
  | exact palaverref01_Number.mono _ _ _
  | exact palaverref02_Input.mono _ _ _
  | exact palaverref02_Tag.mono _ _ _
  | exact palaverref03_Digits.mono _ _
  | exact palaverref03_Step.mono _ _ _
  | exact LeO.none _
  | refine LeO.ite ?_ ?_
  | refine LeO.bind ?_ (fun _ => ?_)
theorem palaverref03_Recover.mono : ∀ a0 a1 k, LeO (palaverref03_Recover.f k a0 a1) (palaverref03_Recover.f (k + 1) a0 a1) := by
 intro a0 a1 k
 obtain ⟨ih0, ih1⟩ := palaverref03_Recover.mono_l k
 unfold palaverref03_Recover.f
 repeat' first
  | (with_reducible exact ih0 _ _ _ _ _)
  | (with_reducible exact ih1 _ _ _ _ _ _ _ _)
  | (with_reducible exact palaverref01_Number.mono _ _ _)
  | (with_reducible exact palaverref02_Input.mono _ _ _)
  | (with_reducible exact palaverref02_Tag.mono _ _ _)
  | (with_reducible exact palaverref03_Digits.mono _ _)
  | (with_reducible exact palaverref03_Step.mono _ _ _)
  | (with_reducible exact LeO.refl _)
  | (with_reducible exact LeO.none _)
  | (with_reducible refine LeO.ite ?_ ?_)
  | (with_reducible refine LeO.bind ?_ (fun _ => ?_))
  | exact ih0 _ _ _ _ _
  | exact ih1 _ _ _ _ _ _ _ _
  | exact palaverref01_Number.mono _ _ _
  | exact palaverref02_Input.mono _ _ _
  | exact palaverref02_Tag.mono _ _ _
  | exact palaverref03_Digits.mono _ _
  | exact palaverref03_Step.mono _ _ _
  | exact LeO.none _
  | refine LeO.ite ?_ ?_
  | refine LeO.bind ?_ (fun _ => ?_)
set_option maxHeartbeats 64000000 in
set_option maxRecDepth 100000 in
theorem palaverref03_Recover.calls (k : Nat) (a0 : ByteArray) (A1 : Option Addr) (c1 : Nat) (l1 : List ByteArray) (r1 : ByteArray) (r2 : List ByteArray) (w : World) (hr1 : Kd.C Kd.string w A1 l1.length l1) (hc1 : l1.length ≤ c1) (h : palaverref03_Recover.f k a0 l1 = some (r1, r2)) :
 Calls Tryd.prog 56 #[.string a0, .slice A1 l1.length c1] w fun e w' => ∃ v1_ : Value, e = .returned (.tuple #[.string r1, v1_]) ∧ Kd.R Kd.string 9 w' w.heap.size (fun _ => True) v1_ r2 ∧ Below w.heap.size w w' := by
 have HR1 := Aside0.mk hr1
 have HC1 := Aside0.mk hc1
 clear hr1 hc1
 have HB := Aside0.mk (Below.refl w.heap.size w)
 have H : ((palaverref03_Digits.f k a0).bind fun t306 => (palaverref03_Recover.l0 k l1 t306 ([] : List ByteArray) ([] : List ByteArray) 0)) = some (r1, r2) := h
 clear h
 revert H; refine oa_ fun t306 A3 H => ?_
 have H' := Aside0.mk H
 clear H
 go_enter Tryd.func56, Tryd.ntmps56
 go_wp2_with (first | ((with_reducible refine gate_callee (f := 80) rfl ?_); refine gL_ 15 Tryd.func80 #[.string a0] ?_; (with_reducible refine (palaverref03_Digits.calls k a0 t306 _ A3.out).mono ?_); rintro e w4 ⟨v307, rfl, ho0, hb⟩; refine ⟨_, rfl, ?_⟩; have HO308 := Aside0.mk (Kd.R_lower ho0 (below_size bl_)); replace HB := Aside0.mk (below_step bl_ hb); clear hb ho0))
 go_loopg [7, 8, 9] k (fun kq v7 v8 v9 w' => ∃ (x7_1 : List ByteArray) (x8_1 : List ByteArray) (x9_1 : Int), v9 = .int .i64 x9_1 ∧ Aside0 (palaverref03_Recover.l0 kq l1 t306 x7_1 x8_1 x9_1 = some (r1, r2)) ∧ Aside0 (kq ≤ k) ∧ Aside0 (Kd.R (Kd.int .i64) 3 w' w.heap.size (fun _ => True) v307 t306) ∧ Aside0 (Kd.R Kd.string 9 w' w.heap.size (fun k_ => some k_ ≠ (v8 : Value).ownBlock) v7 x7_1) ∧ Aside0 (Kd.R Kd.string 9 w' w.heap.size (fun k_ => some k_ ≠ (v7 : Value).ownBlock) v8 x8_1) ∧ Aside0 (Below w.heap.size w w'))
 case atStart => exact ⟨(([] : List ByteArray)), (([] : List ByteArray)), (0), vq_, H', ⟨Nat.le_refl _⟩, ⟨mv_ HO308.out⟩, ⟨by first | exact Kd.R_nil _ _ _ _ _ | exact Kd.N_nil _ _ _ _ _ | exact Kd.V_nil _ _ _ _ _ | exact Kd.Q_nil _ _ _ _ _ | exact Kd.S_nil _ _ _ _ _⟩, ⟨by first | exact Kd.R_nil _ _ _ _ _ | exact Kd.N_nil _ _ _ _ _ | exact Kd.V_nil _ _ _ _ _ | exact Kd.Q_nil _ _ _ _ _ | exact Kd.S_nil _ _ _ _ _⟩, ⟨bl_⟩⟩
 case round =>
  clear H'
  obtain ⟨x7_1, x8_1, x9_1, rfl, HA, HK1, HO_6, HO_7, HO_8, HB⟩ := hrel
  cases gk with
  | zero => exact absurd HA.out (by simp [palaverref03_Recover.l0])
  | succ k1 =>
   have H := HA.out
   clear HA
   simp only [palaverref03_Recover.l0] at H
   by_cases c5 : x9_1 < 67
   ·rw [if_pos c5] at H
    have c5b0 : decide (x9_1 < 67) = true := decide_eq_true c5
    clear c5
    revert H; refine nd_ fun c6 c6b0 => nd_ fun c7 c7b0 H => ?_
    clear c6 c7
    replace H := ob_ H
    obtain ⟨⟨t315, t316⟩, A80, H⟩ := H
    replace H : (if x9_1 < (t306.length : Int) then (palaverref03_Recover.l1 k1 l1 t306 x7_1 x8_1 x9_1 (rdOf ByteArray.empty l1 x9_1) t315 (rd t306 x9_1)) else (none)) = some (r1, r2) := H
    have A8 := Aside0.mk A80
    clear A80
    revert H; refine nd_ fun c9 c9b0 H => ?_
    clear c9
    have H' := Aside0.mk H
    clear H
    have p314 : 0 ≤ (x9_1 : Int) := ae_
    have q314 : x9_1 < (l1.length : Int) := ae_
    obtain ⟨ad314, e314, hx314_0⟩ := Kd.at_string HR1.out x9_1 p314 q314
    cases e314
    replace hx314_0 := (HB.out.cell (World.block_lt_of_cell? w _ hx314_0)).trans hx314_0
    replace p314 := eq_true p314
    replace q314 := eq_true q314
    go_wp2_with (first | ((with_reducible refine gate_callee (f := 47) rfl ?_); refine gL_ 26 Tryd.func47 #[.int .i64 x9_1, .int .i64 1] ?_; (with_reducible refine (palaverref01_Number.calls k1 x9_1 1 t315 t316 _ A8.out).mono ?_); rintro e w10 ⟨rfl, hb⟩; refine ⟨_, rfl, ?_⟩; replace HB := Aside0.mk (below_step bl_ hb); replace HO_8 := Aside0.mk (Kd.R_below (mv_ HO_8.out) hb); replace HO_7 := Aside0.mk (Kd.R_below (mv_ HO_7.out) hb); replace HO_6 := Aside0.mk (Kd.R_below (mv_ HO_6.out) hb); clear hb; obtain ⟨Ao11, co11, eo11⟩ := Kd.R_slice HO_6.out; subst eo11; have p317 : 0 ≤ (x9_1 : Int) := ae_; have q317 : x9_1 < (t306.length : Int) := ae_; obtain ⟨ad317, e317, hx317_0⟩ := Kd.at_int (Kd.R_reads' HO_6.out).2.2 x9_1 p317 q317; cases e317; replace p317 := eq_true p317; replace q317 := eq_true q317))
    go_loopg [8, 10, 13] k1 (fun kq v8 v10 v13 w' => ∃ (x8_2 : List ByteArray) (x10_2 : ByteArray) (x13_2 : Int), v10 = .string x10_2 ∧ v13 = .int .i64 x13_2 ∧ Aside0 (palaverref03_Recover.l1 kq l1 t306 x7_1 x8_2 x9_1 x10_2 t315 x13_2 = some (r1, r2)) ∧ Aside0 (kq ≤ k1) ∧ Aside0 (Kd.R (Kd.int .i64) 3 w' w.heap.size (fun _ => True) (.slice (some ad317) t306.length co11) t306) ∧ Aside0 (Kd.R Kd.string 9 w' w.heap.size (fun k_ => some k_ ≠ (v8 : Value).ownBlock) u7 x7_1) ∧ Aside0 (Kd.R Kd.string 9 w' w.heap.size (fun k_ => some k_ ≠ (u7 : Value).ownBlock) v8 x8_2) ∧ Aside0 (Below w.heap.size w w'))
    case atStart => exact ⟨(x8_1), (rdOf ByteArray.empty l1 x9_1), (rd t306 x9_1), vq_, vq_, H', ⟨Nat.le_refl _⟩, ⟨mv_ HO_6.out⟩, ⟨mv_ HO_7.out⟩, ⟨mv_ HO_8.out⟩, ⟨bl_⟩⟩
    case round =>
     clear H'
     clear c5b0 c6b0 c7b0 c9b0 hx314_0 hx317_0 p314 p317 q314 q317
     obtain ⟨x8_2, x10_2, x13_2, rfl, rfl, HA, HK2, HO_6, HO_7, HO_8, HB⟩ := hrel
     cases gk with
     | zero => exact absurd HA.out (by simp [palaverref03_Recover.l1])
     | succ k2 =>
      have H := HA.out
      clear HA
      simp only [palaverref03_Recover.l1] at H
      by_cases c12 : x13_2 < 15
      ·rw [if_pos c12] at H
       have c12b0 : decide (x13_2 < 15) = true := decide_eq_true c12
       clear c12
       generalize e_ : (([t315, x10_2] : List ByteArray) : List ByteArray) = y318 at H
       have Ny318 := Aside0.mk e_.symm
       clear e_
       revert H; refine oa_ fun t321 A13 => nc_ fun c14 H => ?_
       have LMc14 := Aside0.mk c14
       clear c14
       generalize e_ : (x8_2 ++ [t321] : List ByteArray) = y322 at H
       have Ny322 := Aside0.mk e_.symm
       clear e_
       revert H; refine oa_ fun t325 A15 H => ?_
       have H' := Aside0.mk H
       clear H
       go_wp2_with (first | ((with_reducible refine gate_dst (N := 40) rfl ?_); refine Kd.R_lit Kd.string _ 9 ?hg (N := 40) ?hd (xs := ([t315, x10_2] : List ByteArray)) (inner := [.string t315, .string x10_2]) (ok := fun _ => True) (okp := fun _ => True) ?hr ?hp (fun _ hk => hk) trivial (Below.refl _ _) (Nat.le_refl _) (by simp) ?_; (case hd => rfl); (case hg => rfl); (case hr => exact gr_); (case hp => exact (Reps.one (show Kd.M Kd.string _ _ _ t315 [.string t315] from rfl) (Reps.one (show Kd.M Kd.string _ _ _ x10_2 [.string x10_2] from rfl) (Reps.none _ _)))); intro v319 w16 ho17 hb hg_ hnew_; clear hg_ hnew_; (first | rw [← Ny318.out] at ho17 | (simp only [Int.reduceToNat] at ho17; rw [← Ny318.out] at ho17)); have HO320 := Aside0.mk (Kd.R_lower (Kd.R_new' (Kd.R_new' ho17 (Kd.R_lt (mv_ HO_7.out))) (Kd.R_lt (mv_ HO_8.out))) (below_size bl_)); replace HB := Aside0.mk (below_step bl_ hb); replace HO_8 := Aside0.mk (Kd.R_elder' (mv_ HO_8.out) (Kd.R_base ho17) hb); replace HO_7 := Aside0.mk (Kd.R_elder' (mv_ HO_7.out) (Kd.R_base ho17) hb); replace HO_6 := Aside0.mk (Kd.R_below (mv_ HO_6.out) hb); clear hb ho17; obtain ⟨Ao18, co18, eo18⟩ := Kd.R_slice HO320.out; subst eo18) | ((with_reducible refine gate_callee (f := 54) rfl ?_); refine gL_ 41 Tryd.func54 #[.int .i64 1, .slice Ao18 y318.length co18] ?_; (with_reducible refine (palaverref02_Input.calls k2 1 _ _ y318 t321 _ ?side1 ?side2 A13.out).mono ?_); (case side1 => repeat (first | exact (Kd.R_reads' HO320.out).2.2 | (with_reducible refine Kd.C_alloc ?_ _) | (with_reducible refine Kd.C_drewN ?_ _) | (with_reducible refine Kd.C_drew ?_))); (case side2 => exact (Kd.R_reads' HO320.out).2.1); rintro e w19 ⟨rfl, hb⟩; refine ⟨_, rfl, ?_⟩; replace HB := Aside0.mk (below_step bl_ hb); replace HO320 := Aside0.mk (Kd.R_below (mv_ HO320.out) hb); replace HO_8 := Aside0.mk (Kd.R_below (mv_ HO_8.out) hb); replace HO_7 := Aside0.mk (Kd.R_below (mv_ HO_7.out) hb); replace HO_6 := Aside0.mk (Kd.R_below (mv_ HO_6.out) hb); clear hb) | ((with_reducible refine gate_builtin (b := .append) (xs := #[.tmp 37, .tmp 42]) rfl ?_); at_builtin; refine Kd.R_append Kd.string (w0 := w) w.heap.size rfl (.tmp 37) (.tmp 42) 22 9 (.string ⟨#[]⟩) 16 rfl Tryd.underlying22 info9 rfl (by decide) (by omega) u8 x8_2 t321 [.string t321] (fun k_ => some k_ ≠ (u7 : Value).ownBlock ∧ some k_ ≠ (.slice Ao18 y318.length co18 : Value).ownBlock) (fun _ => False) rfl rfl ?aP (fun _ hk => hk.elim) ?aF ?aO ?aB ?aS ?aL ?_; (case aP => exact rfl); (case aB => exact bl_); (case aF => exact (fun k_ hk => ⟨Kd.fresh' (Kd.R_lt (mv_ HO_7.out)) k_ hk, Kd.fresh' (Kd.R_lt (mv_ HO320.out)) k_ hk⟩)); (case aO => exact (mv_ HO_8.out)); (case aS => exact (below_size bl_)); (case aL => have := LMc14.out; omega); intro v323 w20 ho hb hg hat; rw [← Ny322.out] at ho; have HO324 := Aside0.mk (ho); replace HB := Aside0.mk (hb); replace HO320 := Aside0.mk (Kd.R_after (ok := (fun k_ => some k_ ≠ (u7 : Value).ownBlock)) (by refine mv_ ?_; exact Kd.R_mono HO320.out (fun _ hk => ⟨hk.1.2, hk.2⟩)) hg hat); replace HO_7 := Aside0.mk (Kd.R_after (ok := (fun k_ => some k_ ≠ (.slice Ao18 y318.length co18 : Value).ownBlock)) (by refine mv_ ?_; exact Kd.R_mono HO_7.out (fun _ hk => ⟨hk.2, hk.1⟩)) hg hat); replace HO_6 := Aside0.mk (Kd.R_over' (mv_ HO_6.out) (Kd.R_typed (mv_ HO_8.out)) (by decide) hg); clear HO_8; clear ho hb hg hat) | ((with_reducible refine gate_callee (f := 81) rfl ?_); refine gL_ 46 Tryd.func81 #[.int .i64 x9_1, .string x10_2] ?_; (with_reducible refine (palaverref03_Step.calls k2 x9_1 x10_2 t325 _ A15.out).mono ?_); rintro e w21 ⟨rfl, hb⟩; refine ⟨_, rfl, ?_⟩; replace HB := Aside0.mk (below_step bl_ hb); replace HO324 := Aside0.mk (Kd.R_below (mv_ HO324.out) hb); replace HO320 := Aside0.mk (Kd.R_below (mv_ HO320.out) hb); replace HO_7 := Aside0.mk (Kd.R_below (mv_ HO_7.out) hb); replace HO_6 := Aside0.mk (Kd.R_below (mv_ HO_6.out) hb); clear hb))
       go_roundg k2
       case measure => have := HK1.out; have := HK2.out; omega
       case rel => exact ⟨(y322), (t325), (wrap64 (x13_2 + 1)), vq_, vq_, H', ⟨by have := HK1.out; have := HK2.out; omega⟩, ⟨mv_ HO_6.out⟩, ⟨by refine mv_ ?_; exact Kd.R_mono HO_7.out (fun _ hk => hk.2)⟩, ⟨by refine mv_ ?_; exact Kd.R_mono HO324.out (fun _ hk => hk.1)⟩, ⟨bl_⟩⟩
      rw [if_neg c12] at H
      have c12b0 : decide (x13_2 < 15) = false := decide_eq_false c12
      clear c12
      revert H; refine nc_ fun c22 H => ?_
      have LMc22 := Aside0.mk c22
      clear c22
      generalize e_ : (x7_1 ++ [x10_2] : List ByteArray) = y326 at H
      have Ny326 := Aside0.mk e_.symm
      clear e_
      have H' := Aside0.mk H
      clear H
      go_wp2_with (first | ((with_reducible refine gate_builtin (b := .append) (xs := #[.tmp 47, .tmp 49]) rfl ?_); at_builtin; refine Kd.R_append Kd.string (w0 := w) w.heap.size rfl (.tmp 47) (.tmp 49) 22 9 (.string ⟨#[]⟩) 16 rfl Tryd.underlying22 info9 rfl (by decide) (by omega) u7 x7_1 x10_2 [.string x10_2] (fun k_ => some k_ ≠ (u8 : Value).ownBlock) (fun _ => False) rfl rfl ?aP (fun _ hk => hk.elim) ?aF ?aO ?aB ?aS ?aL ?_; (case aP => exact rfl); (case aB => exact bl_); (case aF => exact (fun k_ hk => Kd.fresh' (Kd.R_lt (mv_ HO_8.out)) k_ hk)); (case aO => exact (mv_ HO_7.out)); (case aS => exact (below_size bl_)); (case aL => have := LMc22.out; omega); intro v327 w23 ho hb hg hat; rw [← Ny326.out] at ho; have HO328 := Aside0.mk (ho); replace HB := Aside0.mk (hb); replace HO_8 := Aside0.mk (Kd.R_after (ok := (fun _ => True)) (by refine mv_ ?_; exact Kd.R_mono HO_8.out (fun _ hk => ⟨trivial, hk⟩)) hg hat); replace HO_6 := Aside0.mk (Kd.R_over' (mv_ HO_6.out) (Kd.R_typed (mv_ HO_7.out)) (by decide) hg); clear HO_7; clear ho hb hg hat))
      go_roundg k2
      case measure => have := HK1.out; have := HK2.out; omega
      case rel => exact ⟨(y326), (x8_2), (wrap64 (x9_1 + 1)), vq_, H', ⟨by have := HK1.out; have := HK2.out; omega⟩, ⟨mv_ HO_6.out⟩, ⟨mv_ HO328.out⟩, ⟨by refine mv_ ?_; exact Kd.R_mono HO_8.out (fun _ hk => hk.2)⟩, ⟨bl_⟩⟩
   rw [if_neg c5] at H
   have c5b0 : decide (x9_1 < 67) = false := decide_eq_false c5
   clear c5
   revert H; refine oa_ fun t309 A24 => oa_ fun t310 A25 => nc_ fun c26 H => ?_
   have LMc26 := Aside0.mk c26
   clear c26
   generalize e_ : (x8_1 ++ [t310] : List ByteArray) = y311 at H
   have Ny311 := Aside0.mk e_.symm
   clear e_
   simp only [Option.some.injEq, Prod.mk.injEq] at H
   obtain ⟨rfl, rfl⟩ := H
   obtain ⟨Ao27, co27, eo27⟩ := Kd.R_slice HO_7.out
   subst eo27
   go_wp2_with (first | ((with_reducible refine gate_callee (f := 37) rfl ?_); refine gL_ 52 Tryd.func37 #[.int .i64 3, .slice Ao27 x7_1.length co27] ?_; (with_reducible refine (palaverref02_Tag.calls k1 3 _ _ x7_1 t309 _ ?side1 ?side2 A24.out).mono ?_); (case side1 => repeat (first | exact (Kd.R_reads' HO_7.out).2.2 | (with_reducible refine Kd.C_alloc ?_ _) | (with_reducible refine Kd.C_drewN ?_ _) | (with_reducible refine Kd.C_drew ?_))); (case side2 => exact (Kd.R_reads' HO_7.out).2.1); rintro e w28 ⟨rfl, hb⟩; refine ⟨_, rfl, ?_⟩; replace HB := Aside0.mk (below_step bl_ hb); replace HO_8 := Aside0.mk (Kd.R_below (mv_ HO_8.out) hb); replace HO_7 := Aside0.mk (Kd.R_below (mv_ HO_7.out) hb); replace HO_6 := Aside0.mk (Kd.R_below (mv_ HO_6.out) hb); clear hb) | ((with_reducible refine gate_callee (f := 54) rfl ?_); refine gL_ 55 Tryd.func54 #[.int .i64 3, .slice Ao27 x7_1.length co27] ?_; (with_reducible refine (palaverref02_Input.calls k1 3 _ _ x7_1 t310 _ ?side1 ?side2 A25.out).mono ?_); (case side1 => repeat (first | exact (Kd.R_reads' HO_7.out).2.2 | (with_reducible refine Kd.C_alloc ?_ _) | (with_reducible refine Kd.C_drewN ?_ _) | (with_reducible refine Kd.C_drew ?_))); (case side2 => exact (Kd.R_reads' HO_7.out).2.1); rintro e w29 ⟨rfl, hb⟩; refine ⟨_, rfl, ?_⟩; replace HB := Aside0.mk (below_step bl_ hb); replace HO_8 := Aside0.mk (Kd.R_below (mv_ HO_8.out) hb); replace HO_7 := Aside0.mk (Kd.R_below (mv_ HO_7.out) hb); replace HO_6 := Aside0.mk (Kd.R_below (mv_ HO_6.out) hb); clear hb) | ((with_reducible refine gate_builtin (b := .append) (xs := #[.tmp 53, .tmp 56]) rfl ?_); at_builtin; refine Kd.R_append Kd.string (w0 := w) w.heap.size rfl (.tmp 53) (.tmp 56) 22 9 (.string ⟨#[]⟩) 16 rfl Tryd.underlying22 info9 rfl (by decide) (by omega) u8 x8_1 t310 [.string t310] (fun k_ => some k_ ≠ (.slice Ao27 x7_1.length co27 : Value).ownBlock) (fun _ => False) rfl rfl ?aP (fun _ hk => hk.elim) ?aF ?aO ?aB ?aS ?aL ?_; (case aP => exact rfl); (case aB => exact bl_); (case aF => exact (fun k_ hk => Kd.fresh' (Kd.R_lt (mv_ HO_7.out)) k_ hk)); (case aO => exact (mv_ HO_8.out)); (case aS => exact (below_size bl_)); (case aL => have := LMc26.out; omega); intro v312 w30 ho hb hg hat; rw [← Ny311.out] at ho; have HO313 := Aside0.mk (ho); replace HB := Aside0.mk (hb); replace HO_7 := Aside0.mk (Kd.R_after (ok := (fun _ => True)) (by refine mv_ ?_; exact Kd.R_mono HO_7.out (fun _ hk => ⟨trivial, hk⟩)) hg hat); replace HO_6 := Aside0.mk (Kd.R_over' (mv_ HO_6.out) (Kd.R_typed (mv_ HO_8.out)) (by decide) hg); clear HO_8; clear ho hb hg hat))
   go_ret2
   exact ⟨_, er_, by refine mv_ ?_; exact Kd.R_mono HO313.out (fun _ hk => trivial), bl_⟩

/-! ### palaverref04_Fold: function 57 -/
mutual
def palaverref04_Fold.j1 : Nat → ByteArray → Int → List ByteArray → Int → Option (ByteArray × List ByteArray × Bool)
 | 0, _, _, _, _ => none
 | k + 1, x0, x1, x2, x9 => if (x2.length : Int) > 4 then (palaverref04_Fold.j2 k x0 x1 x2 true) else (if x1 < 0 then (palaverref04_Fold.j2 k x0 x1 x2 true) else (palaverref04_Fold.j2 k x0 x1 x2 (decide (x1 ≥ x9))))
def palaverref04_Fold.j2 : Nat → ByteArray → Int → List ByteArray → Bool → Option (ByteArray × List ByteArray × Bool)
 | 0, _, _, _, _ => none
 | k + 1, x0, x1, x2, x38 => if x38 = true then (some ((⟨#[]⟩ : ByteArray), ([] : List ByteArray), false)) else (palaverref04_Fold.l1 k x0 x1 x2 ([] : List ByteArray) 0)
def palaverref04_Fold.l1 : Nat → ByteArray → Int → List ByteArray → List ByteArray → Int → Option (ByteArray × List ByteArray × Bool)
 | 0, _, _, _, _, _ => none
 | k + 1, x0, x1, x2, x11, x12 => if x12 < (x2.length : Int) then (if 0 ≤ x12 then (if (Int.tmod x1 2) = 1 then ((palaverref02_Input.f k 4 (([rdOf ByteArray.empty x2 x12, x0] : List ByteArray))).bind fun t334 => (if x11.length < 8796093022208 then ((palaverref02_Tag.f k 4 (([rdOf ByteArray.empty x2 x12, x0] : List ByteArray))).bind fun t341 => (palaverref04_Fold.l1 k t341 (wrap64 (Int.tdiv x1 2)) x2 (x11 ++ [t334]) (wrap64 (x12 + 1)))) else (none))) else ((palaverref02_Input.f k 4 (([x0, rdOf ByteArray.empty x2 x12] : List ByteArray))).bind fun t345 => (if x11.length < 8796093022208 then ((palaverref02_Tag.f k 4 (([x0, rdOf ByteArray.empty x2 x12] : List ByteArray))).bind fun t352 => (palaverref04_Fold.l1 k t352 (wrap64 (Int.tdiv x1 2)) x2 (x11 ++ [t345]) (wrap64 (x12 + 1)))) else (none)))) else (none)) else (some (x0, x11, true))
def palaverref04_Fold.l0 : Nat → ByteArray → Int → List ByteArray → Int → Int → Option (ByteArray × List ByteArray × Bool)
 | 0, _, _, _, _, _ => none
 | k + 1, x0, x1, x2, x9, x10 => if x10 < (x2.length : Int) then (if x10 < 5 then (palaverref04_Fold.l0 k x0 x1 x2 (wrap64 (2 * x9)) (wrap64 (x10 + 1))) else (palaverref04_Fold.j1 k x0 x1 x2 x9)) else (palaverref04_Fold.j1 k x0 x1 x2 x9)
end
def palaverref04_Fold.f (k : Nat) (a0 : ByteArray) (a1 : Int) (l2 : List ByteArray) : Option (ByteArray × List ByteArray × Bool) := palaverref04_Fold.l0 k a0 a1 l2 1 0
theorem palaverref04_Fold.mono_l : ∀ k, (∀ y0 y1 y2 y3, LeO (palaverref04_Fold.j1 k y0 y1 y2 y3) (palaverref04_Fold.j1 (k + 1) y0 y1 y2 y3)) ∧ (∀ y0 y1 y2 y3, LeO (palaverref04_Fold.j2 k y0 y1 y2 y3) (palaverref04_Fold.j2 (k + 1) y0 y1 y2 y3)) ∧ (∀ y0 y1 y2 y3 y4, LeO (palaverref04_Fold.l1 k y0 y1 y2 y3 y4) (palaverref04_Fold.l1 (k + 1) y0 y1 y2 y3 y4)) ∧ (∀ y0 y1 y2 y3 y4, LeO (palaverref04_Fold.l0 k y0 y1 y2 y3 y4) (palaverref04_Fold.l0 (k + 1) y0 y1 y2 y3 y4))
 | 0 => ⟨fun _ _ _ _ r h => by simp [palaverref04_Fold.j1] at h, fun _ _ _ _ r h => by simp [palaverref04_Fold.j2] at h, fun _ _ _ _ _ r h => by simp [palaverref04_Fold.l1] at h, fun _ _ _ _ _ r h => by simp [palaverref04_Fold.l0] at h⟩
 | k + 1 => by
  obtain ⟨ih0, ih1, ih2, ih3⟩ := palaverref04_Fold.mono_l k
  refine ⟨?_, ?_, ?_, ?_⟩ <;> intros <;> (first | unfold palaverref04_Fold.j1 | unfold palaverref04_Fold.j2 | unfold palaverref04_Fold.l1 | unfold palaverref04_Fold.l0) <;> repeat' first
  | (with_reducible exact ih0 _ _ _ _)
  | (with_reducible exact ih1 _ _ _ _)
  | (with_reducible exact ih2 _ _ _ _ _)
  | (with_reducible exact ih3 _ _ _ _ _)
  | (with_reducible exact palaverref02_Input.mono _ _ _)
  | (with_reducible exact palaverref02_Tag.mono _ _ _)
  | (with_reducible exact LeO.refl _)
  | (with_reducible exact LeO.none _)
  | (with_reducible refine LeO.ite ?_ ?_)
  | (with_reducible refine LeO.bind ?_ (fun _ => ?_))
  | exact ih0 _ _ _ _
  | exact ih1 _ _ _ _
  | exact ih2 _ _ _ _ _
  | exact ih3 _ _ _ _ _
  | exact palaverref02_Input.mono _ _ _
  | exact palaverref02_Tag.mono _ _ _
  | exact LeO.none _
  | refine LeO.ite ?_ ?_
  | refine LeO.bind ?_ (fun _ => ?_)
theorem palaverref04_Fold.mono : ∀ a0 a1 a2 k, LeO (palaverref04_Fold.f k a0 a1 a2) (palaverref04_Fold.f (k + 1) a0 a1 a2) := by
 intro a0 a1 a2 k
 obtain ⟨ih0, ih1, ih2, ih3⟩ := palaverref04_Fold.mono_l k
 unfold palaverref04_Fold.f
 repeat' first
  | (with_reducible exact ih0 _ _ _ _)
  | (with_reducible exact ih1 _ _ _ _)
  | (with_reducible exact ih2 _ _ _ _ _)
  | (with_reducible exact ih3 _ _ _ _ _)
  | (with_reducible exact palaverref02_Input.mono _ _ _)
  | (with_reducible exact palaverref02_Tag.mono _ _ _)
  | (with_reducible exact LeO.refl _)
  | (with_reducible exact LeO.none _)
  | (with_reducible refine LeO.ite ?_ ?_)
  | (with_reducible refine LeO.bind ?_ (fun _ => ?_))
  | exact ih0 _ _ _ _
  | exact ih1 _ _ _ _
  | exact ih2 _ _ _ _ _
  | exact ih3 _ _ _ _ _
  | exact palaverref02_Input.mono _ _ _
  | exact palaverref02_Tag.mono _ _ _
  | exact LeO.none _
  | refine LeO.ite ?_ ?_
  | refine LeO.bind ?_ (fun _ => ?_)
set_option maxHeartbeats 64000000 in
set_option maxRecDepth 100000 in
theorem palaverref04_Fold.calls (k : Nat) (a0 : ByteArray) (a1 : Int) (A2 : Option Addr) (c2 : Nat) (l2 : List ByteArray) (r1 : ByteArray) (r2 : List ByteArray) (r3 : Bool) (w : World) (hr2 : Kd.C Kd.string w A2 l2.length l2) (hc2 : l2.length ≤ c2) (h : palaverref04_Fold.f k a0 a1 l2 = some (r1, r2, r3)) :
 Calls Tryd.prog 57 #[.string a0, .int .i64 a1, .slice A2 l2.length c2] w fun e w' => ∃ v1_ : Value, e = .returned (.tuple #[.string r1, v1_, .bool r3]) ∧ Kd.R Kd.string 9 w' w.heap.size (fun _ => True) v1_ r2 ∧ Below w.heap.size w w' := by
 have HR2 := Aside0.mk hr2
 have HC2 := Aside0.mk hc2
 clear hr2 hc2
 have HB := Aside0.mk (Below.refl w.heap.size w)
 have H : (palaverref04_Fold.l0 k a0 a1 l2 1 0) = some (r1, r2, r3) := h
 clear h
 have HC4 := Aside0.mk H
 clear H
 go_enter Tryd.func57, Tryd.ntmps57
 go_upto_block 0 with (fail)
 repeat (go_quiet (fail); go_upto_block 0 with (fail))
 go_cut [9] (fun v9 wc => ∃ (kq : Nat) (x9_3 : Int), v9 = .int .i64 x9_3 ∧ Aside0 (palaverref04_Fold.j1 kq a0 a1 l2 x9_3 = some (r1, r2, r3)) ∧ Aside0 (kq ≤ k) ∧ Aside0 (Below w.heap.size w wc))
 case first =>
  have H := HC4.out
  clear HC4
  have H' := Aside0.mk H
  clear H
  go_wp2
  repeat (go_quiet (fail); try go_wp2)
  go_loopg [9, 10] k (fun kq v9 v10 w' => ∃ (x9_1 : Int) (x10_1 : Int), v9 = .int .i64 x9_1 ∧ v10 = .int .i64 x10_1 ∧ Aside0 (palaverref04_Fold.l0 kq a0 a1 l2 x9_1 x10_1 = some (r1, r2, r3)) ∧ Aside0 (kq ≤ k) ∧ Aside0 (Below w.heap.size w w'))
  case atStart => exact ⟨(1), (0), vq_, vq_, H', ⟨Nat.le_refl _⟩, ⟨bl_⟩⟩
  case round =>
   clear H'
   obtain ⟨x9_1, x10_1, rfl, rfl, HA, HK1, HB⟩ := hrel
   cases gk with
   | zero => exact absurd HA.out (by simp [palaverref04_Fold.l0])
   | succ k1 =>
    have H := HA.out
    clear HA
    simp only [palaverref04_Fold.l0] at H
    by_cases c5 : x10_1 < (l2.length : Int)
    ·rw [if_pos c5] at H
     have c5b0 : decide (x10_1 < (l2.length : Int)) = true := decide_eq_true c5
     clear c5
     (first | rw [c5b0] | (simp only [i64_w, i32_w]; rw [c5b0]) | skip)
     by_cases c6 : x10_1 < 5
     ·rw [if_pos c6] at H
      have c6b0 : decide (x10_1 < 5) = true := decide_eq_true c6
      clear c6
      have H' := Aside0.mk H
      clear H
      go_wp2
      repeat (go_quiet (fail); try go_wp2)
      go_roundg k1
      case measure => have := HK1.out; omega
      case rel => exact ⟨(wrap64 (2 * x9_1)), (wrap64 (x10_1 + 1)), vq_, vq_, H', ⟨by have := HK1.out; omega⟩, ⟨bl_⟩⟩
     rw [if_neg c6] at H
     have c6b0 : decide (x10_1 < 5) = false := decide_eq_false c6
     clear c6
     have H' := Aside0.mk H
     clear H
     go_wp2
     repeat (go_quiet (fail); try go_wp2)
     go_meet
     case rel => exact ⟨_, (x9_1), vq_, H', ⟨by have := HK1.out; first | omega | exact Nat.le_refl _⟩, ⟨bl_⟩⟩
    rw [if_neg c5] at H
    have c5b0 : decide (x10_1 < (l2.length : Int)) = false := decide_eq_false c5
    clear c5
    (first | rw [c5b0] | (simp only [i64_w, i32_w]; rw [c5b0]) | skip)
    have H' := Aside0.mk H
    clear H
    go_wp2
    repeat (go_quiet (fail); try go_wp2)
    go_meet
    case rel => exact ⟨_, (x9_1), vq_, H', ⟨by have := HK1.out; first | omega | exact Nat.le_refl _⟩, ⟨bl_⟩⟩
 case rest =>
  clear HC4
  obtain ⟨kq, x9_3, rfl, HA, HJ3, HB⟩ := hcut
  cases kq with
  | zero => exact absurd HA.out (by simp [palaverref04_Fold.j1])
  | succ kj3 =>
   have H := HA.out
   clear HA
   simp only [palaverref04_Fold.j1] at H
   have HC7 := Aside0.mk H
   clear H
   go_upto_region 6 with (fail)
   repeat (go_quiet (fail); go_upto_region 6 with (fail))
   go_cut [38] (fun v38 wc => ∃ (kq : Nat) (x38_6 : Bool), v38 = .bool x38_6 ∧ Aside0 (palaverref04_Fold.j2 kq a0 a1 l2 x38_6 = some (r1, r2, r3)) ∧ Aside0 (kq ≤ kj3) ∧ Aside0 (Below w.heap.size w wc))
   case first =>
    have H := HC7.out
    clear HC7
    by_cases c8 : (l2.length : Int) > 4
    ·rw [if_pos c8] at H
     have c8b0 : decide (4 < (l2.length : Int)) = true := decide_eq_true c8
     have c8b1 : decide (4 < l2.length) = true := decide_eq_true (by omega)
     clear c8
     (first | rw [c8b0] | (simp only [i64_w, i32_w]; rw [c8b0]) | skip)
     have H' := Aside0.mk H
     clear H
     go_wp2
     repeat (go_quiet (fail); try go_wp2)
     go_meet
     case rel => exact ⟨_, (true), vq_, H', ⟨by have := HJ3.out; first | omega | exact Nat.le_refl _⟩, ⟨bl_⟩⟩
    rw [if_neg c8] at H
    have c8b0 : decide (4 < (l2.length : Int)) = false := decide_eq_false c8
    have c8b1 : decide (4 < l2.length) = false := decide_eq_false (by omega)
    clear c8
    (first | rw [c8b0] | (simp only [i64_w, i32_w]; rw [c8b0]) | skip)
    by_cases c9 : a1 < 0
    ·rw [if_pos c9] at H
     have c9b0 : decide (a1 < 0) = true := decide_eq_true c9
     clear c9
     have H' := Aside0.mk H
     clear H
     go_wp2
     repeat (go_quiet (fail); try go_wp2)
     go_meet
     case rel => exact ⟨_, (true), vq_, H', ⟨by have := HJ3.out; first | omega | exact Nat.le_refl _⟩, ⟨bl_⟩⟩
    rw [if_neg c9] at H
    have c9b0 : decide (a1 < 0) = false := decide_eq_false c9
    clear c9
    have H' := Aside0.mk H
    clear H
    go_wp2
    repeat (go_quiet (fail); try go_wp2)
    go_meet
    case rel => exact ⟨_, (decide (a1 ≥ x9_3)), vq_, H', ⟨by have := HJ3.out; first | omega | exact Nat.le_refl _⟩, ⟨bl_⟩⟩
   case rest =>
    clear HC7
    obtain ⟨kq, x38_6, rfl, HA, HJ6, HB⟩ := hcut
    cases kq with
    | zero => exact absurd HA.out (by simp [palaverref04_Fold.j2])
    | succ kj6 =>
     have H := HA.out
     clear HA
     simp only [palaverref04_Fold.j2] at H
     by_cases c10 : x38_6 = true
     ·subst c10
      have H1 : (some ((⟨#[]⟩ : ByteArray), ([] : List ByteArray), false)) = some (r1, r2, r3) := by rw [if_pos rfl] at H; exact H
      clear H
      have H := H1
      clear H1
      simp only [Option.some.injEq, Prod.mk.injEq] at H
      obtain ⟨rfl, rfl, rfl⟩ := H
      go_wp2
      repeat (go_quiet (fail); try go_wp2)
      go_ret3
      exact ⟨_, er_, by first | exact Kd.R_nil _ _ _ _ _ | exact Kd.N_nil _ _ _ _ _ | exact Kd.V_nil _ _ _ _ _ | exact Kd.Q_nil _ _ _ _ _ | exact Kd.S_nil _ _ _ _ _, bl_⟩
     replace c10 := Bool.eq_false_iff.mpr c10
     subst c10
     have H1 : (palaverref04_Fold.l1 kj6 a0 a1 l2 ([] : List ByteArray) 0) = some (r1, r2, r3) := by rw [if_neg (show ¬ (false = true) by decide)] at H; exact H
     clear H
     have H := H1
     clear H1
     have H' := Aside0.mk H
     clear H
     go_wp2
     repeat (go_quiet (fail); try go_wp2)
     go_loopg [0, 1, 11, 12] kj6 (fun kq v0 v1 v11 v12 w' => ∃ (x0_3 : ByteArray) (x1_3 : Int) (x11_3 : List ByteArray) (x12_3 : Int), v0 = .string x0_3 ∧ v1 = .int .i64 x1_3 ∧ v12 = .int .i64 x12_3 ∧ Aside0 (palaverref04_Fold.l1 kq x0_3 x1_3 l2 x11_3 x12_3 = some (r1, r2, r3)) ∧ Aside0 (kq ≤ kj6) ∧ Aside0 (Kd.R Kd.string 9 w' w.heap.size (fun _ => True) v11 x11_3) ∧ Aside0 (Below w.heap.size w w'))
     case atStart => exact ⟨(a0), (a1), (([] : List ByteArray)), (0), vq_, vq_, vq_, H', ⟨Nat.le_refl _⟩, ⟨by first | exact Kd.R_nil _ _ _ _ _ | exact Kd.N_nil _ _ _ _ _ | exact Kd.V_nil _ _ _ _ _ | exact Kd.Q_nil _ _ _ _ _ | exact Kd.S_nil _ _ _ _ _⟩, ⟨bl_⟩⟩
     case round =>
      clear H'
      obtain ⟨x0_3, x1_3, x11_3, x12_3, rfl, rfl, rfl, HA, HK3, HO_11, HB⟩ := hrel
      cases gk with
      | zero => exact absurd HA.out (by simp [palaverref04_Fold.l1])
      | succ k3 =>
       have H := HA.out
       clear HA
       simp only [palaverref04_Fold.l1] at H
       by_cases c11 : x12_3 < (l2.length : Int)
       ·rw [if_pos c11] at H
        have c11b0 : decide (x12_3 < (l2.length : Int)) = true := decide_eq_true c11
        clear c11
        revert H; refine nd_ fun c12 c12b0 H => ?_
        clear c12
        by_cases c13 : (Int.tmod x1_3 2) = 1
        ·rw [if_pos c13] at H
         have c13b0 : ((Int.tmod x1_3 2) == 1) = true := beq_iff_eq.mpr c13
         have c13b1 : ((Int.tmod x1_3 2) != 1) = false := bne_eq_false_iff_eq.mpr c13
         clear c13
         obtain ⟨y331, hy331⟩ : ∃ y_ : List ByteArray, y_ = (([rdOf ByteArray.empty l2 x12_3, x0_3] : List ByteArray)) := ⟨_, rfl⟩
         replace H : ((palaverref02_Input.f k3 4 y331).bind fun t334 => (if x11_3.length < 8796093022208 then ((palaverref02_Tag.f k3 4 (([rdOf ByteArray.empty l2 x12_3, x0_3] : List ByteArray))).bind fun t341 => (palaverref04_Fold.l1 k3 t341 (wrap64 (Int.tdiv x1_3 2)) l2 (x11_3 ++ [t334]) (wrap64 (x12_3 + 1)))) else (none))) = some (r1, r2, r3) := by first | (rw [hy331]; with_reducible exact H) | (have H2_ := (Option.bind_some _ _).symm.trans H; rw [hy331]; with_reducible exact H2_) | (have H2_ := (Option.bind_some _ _).symm.trans H; with_reducible exact H2_) | with_reducible exact H | (rw [hy331]; exact H) | exact H
         have Ny331 := Aside0.mk hy331
         clear hy331
         revert H; refine oa_ fun t334 A14 => nc_ fun c15 H => ?_
         have LMc15 := Aside0.mk c15
         clear c15
         generalize e_ : (x11_3 ++ [t334] : List ByteArray) = y335 at H
         have Ny335 := Aside0.mk e_.symm
         clear e_
         generalize e_ : (([rdOf ByteArray.empty l2 x12_3, x0_3] : List ByteArray) : List ByteArray) = y338 at H
         have Ny338 := Aside0.mk e_.symm
         clear e_
         revert H; refine oa_ fun t341 A16 H => ?_
         have H' := Aside0.mk H
         clear H
         have p329 : 0 ≤ (x12_3 : Int) := ae_
         have q329 : x12_3 < (l2.length : Int) := ae_
         obtain ⟨ad329, e329, hx329_0⟩ := Kd.at_string HR2.out x12_3 p329 q329
         cases e329
         replace hx329_0 := (HB.out.cell (World.block_lt_of_cell? w _ hx329_0)).trans hx329_0
         replace p329 := eq_true p329
         replace q329 := eq_true q329
         have p330 : 0 ≤ (x12_3 : Int) := ae_
         have q330 : x12_3 < (l2.length : Int) := ae_
         obtain ⟨ad330, e330, hx330_0⟩ := Kd.at_string HR2.out x12_3 p330 q330
         obtain rfl : ad329 = ad330 := (by injection e330)
         replace hx330_0 := (HB.out.cell (World.block_lt_of_cell? w _ hx330_0)).trans hx330_0
         replace p330 := eq_true p330
         replace q330 := eq_true q330
         go_wp2_with (first | ((with_reducible refine gate_dst (N := 61) rfl ?_); refine Kd.R_lit Kd.string _ 9 ?hg (N := 61) ?hd (xs := ([rdOf ByteArray.empty l2 x12_3, x0_3] : List ByteArray)) (inner := [.string (rdOf ByteArray.empty l2 x12_3), .string x0_3]) (ok := fun _ => True) (okp := fun _ => True) ?hr ?hp (fun _ hk => hk) trivial (Below.refl _ _) (Nat.le_refl _) (by simp) ?_; (case hd => rfl); (case hg => rfl); (case hr => exact gr_); (case hp => exact (Reps.one (show Kd.M Kd.string _ _ _ (rdOf ByteArray.empty l2 x12_3) [.string (rdOf ByteArray.empty l2 x12_3)] from rfl) (Reps.one (show Kd.M Kd.string _ _ _ x0_3 [.string x0_3] from rfl) (Reps.none _ _)))); intro v332 w17 ho18 hb hg_ hnew_; clear hg_ hnew_; (first | rw [← Ny331.out] at ho18 | (simp only [Int.reduceToNat] at ho18; rw [← Ny331.out] at ho18)); have HO333 := Aside0.mk (Kd.R_lower (Kd.R_new' ho18 (Kd.R_lt (mv_ HO_11.out))) (below_size bl_)); replace HB := Aside0.mk (below_step bl_ hb); replace HO_11 := Aside0.mk (Kd.R_elder' (mv_ HO_11.out) (Kd.R_base ho18) hb); clear hb ho18; obtain ⟨Ao19, co19, eo19⟩ := Kd.R_slice HO333.out; subst eo19) | (go_at_call 54; (with_reducible refine (palaverref02_Input.calls k3 4 _ _ y331 t334 _ ?side1 ?side2 A14.out).mono ?_); (case side1 => repeat (first | exact (Kd.R_reads' HO333.out).2.2 | (with_reducible refine Kd.C_alloc ?_ _) | (with_reducible refine Kd.C_drewN ?_ _) | (with_reducible refine Kd.C_drew ?_))); (case side2 => exact (Kd.R_reads' HO333.out).2.1); rintro e w20 ⟨rfl, hb⟩; replace HB := Aside0.mk (below_step bl_ hb); replace HO333 := Aside0.mk (Kd.R_below (mv_ HO333.out) hb); replace HO_11 := Aside0.mk (Kd.R_below (mv_ HO_11.out) hb); (try clear hb); (try clear hb2); (try clear hk); (try clear hi)) | ((with_reducible refine gate_builtin (b := .append) (xs := #[.tmp 58, .tmp 63]) rfl ?_); at_builtin; refine Kd.R_append Kd.string (w0 := w) w.heap.size rfl (.tmp 58) (.tmp 63) 22 9 (.string ⟨#[]⟩) 16 rfl Tryd.underlying22 info9 rfl (by decide) (by omega) u11 x11_3 t334 [.string t334] (fun k_ => some k_ ≠ (.slice Ao19 y331.length co19 : Value).ownBlock) (fun _ => False) rfl rfl ?aP (fun _ hk => hk.elim) ?aF ?aO ?aB ?aS ?aL ?_; (case aP => exact rfl); (case aB => exact bl_); (case aF => exact (fun k_ hk => Kd.fresh' (Kd.R_lt (mv_ HO333.out)) k_ hk)); (case aO => exact (by refine mv_ ?_; exact Kd.R_mono HO_11.out (fun _ hk => hk.2))); (case aS => exact (below_size bl_)); (case aL => have := LMc15.out; omega); intro v336 w21 ho hb hg hat; rw [← Ny335.out] at ho; have HO337 := Aside0.mk (ho); replace HB := Aside0.mk (hb); replace HO333 := Aside0.mk (Kd.R_after (ok := (fun _ => True)) (mv_ HO333.out) hg hat); clear HO_11; clear ho hb hg hat) | ((with_reducible refine gate_dst (N := 67) rfl ?_); refine Kd.R_lit Kd.string _ 9 ?hg (N := 67) ?hd (xs := ([rdOf ByteArray.empty l2 x12_3, x0_3] : List ByteArray)) (inner := [.string (rdOf ByteArray.empty l2 x12_3), .string x0_3]) (ok := fun _ => True) (okp := fun _ => True) ?hr ?hp (fun _ hk => hk) trivial (Below.refl _ _) (Nat.le_refl _) (by simp) ?_; (case hd => rfl); (case hg => rfl); (case hr => exact gr_); (case hp => exact (Reps.one (show Kd.M Kd.string _ _ _ (rdOf ByteArray.empty l2 x12_3) [.string (rdOf ByteArray.empty l2 x12_3)] from rfl) (Reps.one (show Kd.M Kd.string _ _ _ x0_3 [.string x0_3] from rfl) (Reps.none _ _)))); intro v339 w22 ho23 hb hg_ hnew_; clear hg_ hnew_; (first | rw [← Ny338.out] at ho23 | (simp only [Int.reduceToNat] at ho23; rw [← Ny338.out] at ho23)); have HO340 := Aside0.mk (Kd.R_lower (Kd.R_new' (Kd.R_new' ho23 (Kd.R_lt (mv_ HO333.out))) (Kd.R_lt (mv_ HO337.out))) (below_size bl_)); replace HB := Aside0.mk (below_step bl_ hb); replace HO337 := Aside0.mk (Kd.R_elder' (mv_ HO337.out) (Kd.R_base ho23) hb); replace HO333 := Aside0.mk (Kd.R_elder' (mv_ HO333.out) (Kd.R_base ho23) hb); clear hb ho23; obtain ⟨Ao24, co24, eo24⟩ := Kd.R_slice HO340.out; subst eo24) | (go_at_call 37; (with_reducible refine (palaverref02_Tag.calls k3 4 _ _ y338 t341 _ ?side1 ?side2 A16.out).mono ?_); (case side1 => repeat (first | exact (Kd.R_reads' HO340.out).2.2 | (with_reducible refine Kd.C_alloc ?_ _) | (with_reducible refine Kd.C_drewN ?_ _) | (with_reducible refine Kd.C_drew ?_))); (case side2 => exact (Kd.R_reads' HO340.out).2.1); rintro e w25 ⟨rfl, hb⟩; replace HB := Aside0.mk (below_step bl_ hb); replace HO340 := Aside0.mk (Kd.R_below (mv_ HO340.out) hb); replace HO337 := Aside0.mk (Kd.R_below (mv_ HO337.out) hb); replace HO333 := Aside0.mk (Kd.R_below (mv_ HO333.out) hb); (try clear hb); (try clear hb2); (try clear hk); (try clear hi)))
         repeat (go_quiet (first | ((with_reducible refine gate_dst (N := 61) rfl ?_); refine Kd.R_lit Kd.string _ 9 ?hg (N := 61) ?hd (xs := ([rdOf ByteArray.empty l2 x12_3, x0_3] : List ByteArray)) (inner := [.string (rdOf ByteArray.empty l2 x12_3), .string x0_3]) (ok := fun _ => True) (okp := fun _ => True) ?hr ?hp (fun _ hk => hk) trivial (Below.refl _ _) (Nat.le_refl _) (by simp) ?_; (case hd => rfl); (case hg => rfl); (case hr => exact gr_); (case hp => exact (Reps.one (show Kd.M Kd.string _ _ _ (rdOf ByteArray.empty l2 x12_3) [.string (rdOf ByteArray.empty l2 x12_3)] from rfl) (Reps.one (show Kd.M Kd.string _ _ _ x0_3 [.string x0_3] from rfl) (Reps.none _ _)))); intro v332 w17 ho18 hb hg_ hnew_; clear hg_ hnew_; (first | rw [← Ny331.out] at ho18 | (simp only [Int.reduceToNat] at ho18; rw [← Ny331.out] at ho18)); have HO333 := Aside0.mk (Kd.R_lower (Kd.R_new' ho18 (Kd.R_lt (mv_ HO_11.out))) (below_size bl_)); replace HB := Aside0.mk (below_step bl_ hb); replace HO_11 := Aside0.mk (Kd.R_elder' (mv_ HO_11.out) (Kd.R_base ho18) hb); clear hb ho18; obtain ⟨Ao19, co19, eo19⟩ := Kd.R_slice HO333.out; subst eo19) | (go_at_call 54; (with_reducible refine (palaverref02_Input.calls k3 4 _ _ y331 t334 _ ?side1 ?side2 A14.out).mono ?_); (case side1 => repeat (first | exact (Kd.R_reads' HO333.out).2.2 | (with_reducible refine Kd.C_alloc ?_ _) | (with_reducible refine Kd.C_drewN ?_ _) | (with_reducible refine Kd.C_drew ?_))); (case side2 => exact (Kd.R_reads' HO333.out).2.1); rintro e w20 ⟨rfl, hb⟩; replace HB := Aside0.mk (below_step bl_ hb); replace HO333 := Aside0.mk (Kd.R_below (mv_ HO333.out) hb); replace HO_11 := Aside0.mk (Kd.R_below (mv_ HO_11.out) hb); (try clear hb); (try clear hb2); (try clear hk); (try clear hi)) | ((with_reducible refine gate_builtin (b := .append) (xs := #[.tmp 58, .tmp 63]) rfl ?_); at_builtin; refine Kd.R_append Kd.string (w0 := w) w.heap.size rfl (.tmp 58) (.tmp 63) 22 9 (.string ⟨#[]⟩) 16 rfl Tryd.underlying22 info9 rfl (by decide) (by omega) u11 x11_3 t334 [.string t334] (fun k_ => some k_ ≠ (.slice Ao19 y331.length co19 : Value).ownBlock) (fun _ => False) rfl rfl ?aP (fun _ hk => hk.elim) ?aF ?aO ?aB ?aS ?aL ?_; (case aP => exact rfl); (case aB => exact bl_); (case aF => exact (fun k_ hk => Kd.fresh' (Kd.R_lt (mv_ HO333.out)) k_ hk)); (case aO => exact (by refine mv_ ?_; exact Kd.R_mono HO_11.out (fun _ hk => hk.2))); (case aS => exact (below_size bl_)); (case aL => have := LMc15.out; omega); intro v336 w21 ho hb hg hat; rw [← Ny335.out] at ho; have HO337 := Aside0.mk (ho); replace HB := Aside0.mk (hb); replace HO333 := Aside0.mk (Kd.R_after (ok := (fun _ => True)) (mv_ HO333.out) hg hat); clear HO_11; clear ho hb hg hat) | ((with_reducible refine gate_dst (N := 67) rfl ?_); refine Kd.R_lit Kd.string _ 9 ?hg (N := 67) ?hd (xs := ([rdOf ByteArray.empty l2 x12_3, x0_3] : List ByteArray)) (inner := [.string (rdOf ByteArray.empty l2 x12_3), .string x0_3]) (ok := fun _ => True) (okp := fun _ => True) ?hr ?hp (fun _ hk => hk) trivial (Below.refl _ _) (Nat.le_refl _) (by simp) ?_; (case hd => rfl); (case hg => rfl); (case hr => exact gr_); (case hp => exact (Reps.one (show Kd.M Kd.string _ _ _ (rdOf ByteArray.empty l2 x12_3) [.string (rdOf ByteArray.empty l2 x12_3)] from rfl) (Reps.one (show Kd.M Kd.string _ _ _ x0_3 [.string x0_3] from rfl) (Reps.none _ _)))); intro v339 w22 ho23 hb hg_ hnew_; clear hg_ hnew_; (first | rw [← Ny338.out] at ho23 | (simp only [Int.reduceToNat] at ho23; rw [← Ny338.out] at ho23)); have HO340 := Aside0.mk (Kd.R_lower (Kd.R_new' (Kd.R_new' ho23 (Kd.R_lt (mv_ HO333.out))) (Kd.R_lt (mv_ HO337.out))) (below_size bl_)); replace HB := Aside0.mk (below_step bl_ hb); replace HO337 := Aside0.mk (Kd.R_elder' (mv_ HO337.out) (Kd.R_base ho23) hb); replace HO333 := Aside0.mk (Kd.R_elder' (mv_ HO333.out) (Kd.R_base ho23) hb); clear hb ho23; obtain ⟨Ao24, co24, eo24⟩ := Kd.R_slice HO340.out; subst eo24) | (go_at_call 37; (with_reducible refine (palaverref02_Tag.calls k3 4 _ _ y338 t341 _ ?side1 ?side2 A16.out).mono ?_); (case side1 => repeat (first | exact (Kd.R_reads' HO340.out).2.2 | (with_reducible refine Kd.C_alloc ?_ _) | (with_reducible refine Kd.C_drewN ?_ _) | (with_reducible refine Kd.C_drew ?_))); (case side2 => exact (Kd.R_reads' HO340.out).2.1); rintro e w25 ⟨rfl, hb⟩; replace HB := Aside0.mk (below_step bl_ hb); replace HO340 := Aside0.mk (Kd.R_below (mv_ HO340.out) hb); replace HO337 := Aside0.mk (Kd.R_below (mv_ HO337.out) hb); replace HO333 := Aside0.mk (Kd.R_below (mv_ HO333.out) hb); (try clear hb); (try clear hb2); (try clear hk); (try clear hi))); try go_wp2_with (first | ((with_reducible refine gate_dst (N := 61) rfl ?_); refine Kd.R_lit Kd.string _ 9 ?hg (N := 61) ?hd (xs := ([rdOf ByteArray.empty l2 x12_3, x0_3] : List ByteArray)) (inner := [.string (rdOf ByteArray.empty l2 x12_3), .string x0_3]) (ok := fun _ => True) (okp := fun _ => True) ?hr ?hp (fun _ hk => hk) trivial (Below.refl _ _) (Nat.le_refl _) (by simp) ?_; (case hd => rfl); (case hg => rfl); (case hr => exact gr_); (case hp => exact (Reps.one (show Kd.M Kd.string _ _ _ (rdOf ByteArray.empty l2 x12_3) [.string (rdOf ByteArray.empty l2 x12_3)] from rfl) (Reps.one (show Kd.M Kd.string _ _ _ x0_3 [.string x0_3] from rfl) (Reps.none _ _)))); intro v332 w17 ho18 hb hg_ hnew_; clear hg_ hnew_; (first | rw [← Ny331.out] at ho18 | (simp only [Int.reduceToNat] at ho18; rw [← Ny331.out] at ho18)); have HO333 := Aside0.mk (Kd.R_lower (Kd.R_new' ho18 (Kd.R_lt (mv_ HO_11.out))) (below_size bl_)); replace HB := Aside0.mk (below_step bl_ hb); replace HO_11 := Aside0.mk (Kd.R_elder' (mv_ HO_11.out) (Kd.R_base ho18) hb); clear hb ho18; obtain ⟨Ao19, co19, eo19⟩ := Kd.R_slice HO333.out; subst eo19) | (go_at_call 54; (with_reducible refine (palaverref02_Input.calls k3 4 _ _ y331 t334 _ ?side1 ?side2 A14.out).mono ?_); (case side1 => repeat (first | exact (Kd.R_reads' HO333.out).2.2 | (with_reducible refine Kd.C_alloc ?_ _) | (with_reducible refine Kd.C_drewN ?_ _) | (with_reducible refine Kd.C_drew ?_))); (case side2 => exact (Kd.R_reads' HO333.out).2.1); rintro e w20 ⟨rfl, hb⟩; replace HB := Aside0.mk (below_step bl_ hb); replace HO333 := Aside0.mk (Kd.R_below (mv_ HO333.out) hb); replace HO_11 := Aside0.mk (Kd.R_below (mv_ HO_11.out) hb); clear hb) | ((with_reducible refine gate_builtin (b := .append) (xs := #[.tmp 58, .tmp 63]) rfl ?_); at_builtin; refine Kd.R_append Kd.string (w0 := w) w.heap.size rfl (.tmp 58) (.tmp 63) 22 9 (.string ⟨#[]⟩) 16 rfl Tryd.underlying22 info9 rfl (by decide) (by omega) u11 x11_3 t334 [.string t334] (fun k_ => some k_ ≠ (.slice Ao19 y331.length co19 : Value).ownBlock) (fun _ => False) rfl rfl ?aP (fun _ hk => hk.elim) ?aF ?aO ?aB ?aS ?aL ?_; (case aP => exact rfl); (case aB => exact bl_); (case aF => exact (fun k_ hk => Kd.fresh' (Kd.R_lt (mv_ HO333.out)) k_ hk)); (case aO => exact (by refine mv_ ?_; exact Kd.R_mono HO_11.out (fun _ hk => hk.2))); (case aS => exact (below_size bl_)); (case aL => have := LMc15.out; omega); intro v336 w21 ho hb hg hat; rw [← Ny335.out] at ho; have HO337 := Aside0.mk (ho); replace HB := Aside0.mk (hb); replace HO333 := Aside0.mk (Kd.R_after (ok := (fun _ => True)) (mv_ HO333.out) hg hat); clear HO_11; clear ho hb hg hat) | ((with_reducible refine gate_dst (N := 67) rfl ?_); refine Kd.R_lit Kd.string _ 9 ?hg (N := 67) ?hd (xs := ([rdOf ByteArray.empty l2 x12_3, x0_3] : List ByteArray)) (inner := [.string (rdOf ByteArray.empty l2 x12_3), .string x0_3]) (ok := fun _ => True) (okp := fun _ => True) ?hr ?hp (fun _ hk => hk) trivial (Below.refl _ _) (Nat.le_refl _) (by simp) ?_; (case hd => rfl); (case hg => rfl); (case hr => exact gr_); (case hp => exact (Reps.one (show Kd.M Kd.string _ _ _ (rdOf ByteArray.empty l2 x12_3) [.string (rdOf ByteArray.empty l2 x12_3)] from rfl) (Reps.one (show Kd.M Kd.string _ _ _ x0_3 [.string x0_3] from rfl) (Reps.none _ _)))); intro v339 w22 ho23 hb hg_ hnew_; clear hg_ hnew_; (first | rw [← Ny338.out] at ho23 | (simp only [Int.reduceToNat] at ho23; rw [← Ny338.out] at ho23)); have HO340 := Aside0.mk (Kd.R_lower (Kd.R_new' (Kd.R_new' ho23 (Kd.R_lt (mv_ HO333.out))) (Kd.R_lt (mv_ HO337.out))) (below_size bl_)); replace HB := Aside0.mk (below_step bl_ hb); replace HO337 := Aside0.mk (Kd.R_elder' (mv_ HO337.out) (Kd.R_base ho23) hb); replace HO333 := Aside0.mk (Kd.R_elder' (mv_ HO333.out) (Kd.R_base ho23) hb); clear hb ho23; obtain ⟨Ao24, co24, eo24⟩ := Kd.R_slice HO340.out; subst eo24) | (go_at_call 37; (with_reducible refine (palaverref02_Tag.calls k3 4 _ _ y338 t341 _ ?side1 ?side2 A16.out).mono ?_); (case side1 => repeat (first | exact (Kd.R_reads' HO340.out).2.2 | (with_reducible refine Kd.C_alloc ?_ _) | (with_reducible refine Kd.C_drewN ?_ _) | (with_reducible refine Kd.C_drew ?_))); (case side2 => exact (Kd.R_reads' HO340.out).2.1); rintro e w25 ⟨rfl, hb⟩; replace HB := Aside0.mk (below_step bl_ hb); replace HO340 := Aside0.mk (Kd.R_below (mv_ HO340.out) hb); replace HO337 := Aside0.mk (Kd.R_below (mv_ HO337.out) hb); replace HO333 := Aside0.mk (Kd.R_below (mv_ HO333.out) hb); clear hb)))
         go_roundg k3
         case measure => have := HJ3.out; have := HJ6.out; have := HK3.out; omega
         case rel => exact ⟨(t341), (wrap64 (Int.tdiv x1_3 2)), (y335), (wrap64 (x12_3 + 1)), vq_, vq_, vq_, H', ⟨by have := HJ3.out; have := HJ6.out; have := HK3.out; omega⟩, ⟨by refine mv_ ?_; exact Kd.R_mono HO337.out (fun _ hk => trivial)⟩, ⟨bl_⟩⟩
        rw [if_neg c13] at H
        have c13b0 : ((Int.tmod x1_3 2) == 1) = false := beq_eq_false_iff_ne.mpr c13
        have c13b1 : ((Int.tmod x1_3 2) != 1) = true := bne_iff_ne.mpr c13
        obtain ⟨y342, hy342⟩ : ∃ y_ : List ByteArray, y_ = (([x0_3, rdOf ByteArray.empty l2 x12_3] : List ByteArray)) := ⟨_, rfl⟩
        replace H : ((palaverref02_Input.f k3 4 y342).bind fun t345 => (if x11_3.length < 8796093022208 then ((palaverref02_Tag.f k3 4 (([x0_3, rdOf ByteArray.empty l2 x12_3] : List ByteArray))).bind fun t352 => (palaverref04_Fold.l1 k3 t352 (wrap64 (Int.tdiv x1_3 2)) l2 (x11_3 ++ [t345]) (wrap64 (x12_3 + 1)))) else (none))) = some (r1, r2, r3) := by first | (rw [hy342]; with_reducible exact H) | (have H2_ := (Option.bind_some _ _).symm.trans H; rw [hy342]; with_reducible exact H2_) | (have H2_ := (Option.bind_some _ _).symm.trans H; with_reducible exact H2_) | with_reducible exact H | (rw [hy342]; exact H) | exact H
        have Ny342 := Aside0.mk hy342
        clear hy342
        revert H; refine oa_ fun t345 A26 => nc_ fun c27 H => ?_
        have LMc27 := Aside0.mk c27
        clear c27
        generalize e_ : (x11_3 ++ [t345] : List ByteArray) = y346 at H
        have Ny346 := Aside0.mk e_.symm
        clear e_
        generalize e_ : (([x0_3, rdOf ByteArray.empty l2 x12_3] : List ByteArray) : List ByteArray) = y349 at H
        have Ny349 := Aside0.mk e_.symm
        clear e_
        revert H; refine oa_ fun t352 A28 H => ?_
        have H' := Aside0.mk H
        clear H
        have p329 : 0 ≤ (x12_3 : Int) := ae_
        have q329 : x12_3 < (l2.length : Int) := ae_
        obtain ⟨ad329, e329, hx329_0⟩ := Kd.at_string HR2.out x12_3 p329 q329
        cases e329
        replace hx329_0 := (HB.out.cell (World.block_lt_of_cell? w _ hx329_0)).trans hx329_0
        replace p329 := eq_true p329
        replace q329 := eq_true q329
        go_wp2_with (first | ((with_reducible refine gate_dst (N := 61) rfl ?_); refine Kd.R_lit Kd.string _ 9 ?hg (N := 61) ?hd (xs := ([x0_3, rdOf ByteArray.empty l2 x12_3] : List ByteArray)) (inner := [.string x0_3, .string (rdOf ByteArray.empty l2 x12_3)]) (ok := fun _ => True) (okp := fun _ => True) ?hr ?hp (fun _ hk => hk) trivial (Below.refl _ _) (Nat.le_refl _) (by simp) ?_; (case hd => rfl); (case hg => rfl); (case hr => exact gr_); (case hp => exact (Reps.one (show Kd.M Kd.string _ _ _ x0_3 [.string x0_3] from rfl) (Reps.one (show Kd.M Kd.string _ _ _ (rdOf ByteArray.empty l2 x12_3) [.string (rdOf ByteArray.empty l2 x12_3)] from rfl) (Reps.none _ _)))); intro v343 w29 ho30 hb hg_ hnew_; clear hg_ hnew_; (first | rw [← Ny342.out] at ho30 | (simp only [Int.reduceToNat] at ho30; rw [← Ny342.out] at ho30)); have HO344 := Aside0.mk (Kd.R_lower (Kd.R_new' ho30 (Kd.R_lt (mv_ HO_11.out))) (below_size bl_)); replace HB := Aside0.mk (below_step bl_ hb); replace HO_11 := Aside0.mk (Kd.R_elder' (mv_ HO_11.out) (Kd.R_base ho30) hb); clear hb ho30; obtain ⟨Ao31, co31, eo31⟩ := Kd.R_slice HO344.out; subst eo31) | (go_at_call 54; (with_reducible refine (palaverref02_Input.calls k3 4 _ _ y342 t345 _ ?side1 ?side2 A26.out).mono ?_); (case side1 => repeat (first | exact (Kd.R_reads' HO344.out).2.2 | (with_reducible refine Kd.C_alloc ?_ _) | (with_reducible refine Kd.C_drewN ?_ _) | (with_reducible refine Kd.C_drew ?_))); (case side2 => exact (Kd.R_reads' HO344.out).2.1); rintro e w32 ⟨rfl, hb⟩; replace HB := Aside0.mk (below_step bl_ hb); replace HO344 := Aside0.mk (Kd.R_below (mv_ HO344.out) hb); replace HO_11 := Aside0.mk (Kd.R_below (mv_ HO_11.out) hb); (try clear hb); (try clear hb2); (try clear hk); (try clear hi)) | ((with_reducible refine gate_builtin (b := .append) (xs := #[.tmp 58, .tmp 63]) rfl ?_); at_builtin; refine Kd.R_append Kd.string (w0 := w) w.heap.size rfl (.tmp 58) (.tmp 63) 22 9 (.string ⟨#[]⟩) 16 rfl Tryd.underlying22 info9 rfl (by decide) (by omega) u11 x11_3 t345 [.string t345] (fun k_ => some k_ ≠ (.slice Ao31 y342.length co31 : Value).ownBlock) (fun _ => False) rfl rfl ?aP (fun _ hk => hk.elim) ?aF ?aO ?aB ?aS ?aL ?_; (case aP => exact rfl); (case aB => exact bl_); (case aF => exact (fun k_ hk => Kd.fresh' (Kd.R_lt (mv_ HO344.out)) k_ hk)); (case aO => exact (by refine mv_ ?_; exact Kd.R_mono HO_11.out (fun _ hk => hk.2))); (case aS => exact (below_size bl_)); (case aL => have := LMc27.out; omega); intro v347 w33 ho hb hg hat; rw [← Ny346.out] at ho; have HO348 := Aside0.mk (ho); replace HB := Aside0.mk (hb); replace HO344 := Aside0.mk (Kd.R_after (ok := (fun _ => True)) (mv_ HO344.out) hg hat); clear HO_11; clear ho hb hg hat) | ((with_reducible refine gate_dst (N := 67) rfl ?_); refine Kd.R_lit Kd.string _ 9 ?hg (N := 67) ?hd (xs := ([x0_3, rdOf ByteArray.empty l2 x12_3] : List ByteArray)) (inner := [.string x0_3, .string (rdOf ByteArray.empty l2 x12_3)]) (ok := fun _ => True) (okp := fun _ => True) ?hr ?hp (fun _ hk => hk) trivial (Below.refl _ _) (Nat.le_refl _) (by simp) ?_; (case hd => rfl); (case hg => rfl); (case hr => exact gr_); (case hp => exact (Reps.one (show Kd.M Kd.string _ _ _ x0_3 [.string x0_3] from rfl) (Reps.one (show Kd.M Kd.string _ _ _ (rdOf ByteArray.empty l2 x12_3) [.string (rdOf ByteArray.empty l2 x12_3)] from rfl) (Reps.none _ _)))); intro v350 w34 ho35 hb hg_ hnew_; clear hg_ hnew_; (first | rw [← Ny349.out] at ho35 | (simp only [Int.reduceToNat] at ho35; rw [← Ny349.out] at ho35)); have HO351 := Aside0.mk (Kd.R_lower (Kd.R_new' (Kd.R_new' ho35 (Kd.R_lt (mv_ HO344.out))) (Kd.R_lt (mv_ HO348.out))) (below_size bl_)); replace HB := Aside0.mk (below_step bl_ hb); replace HO348 := Aside0.mk (Kd.R_elder' (mv_ HO348.out) (Kd.R_base ho35) hb); replace HO344 := Aside0.mk (Kd.R_elder' (mv_ HO344.out) (Kd.R_base ho35) hb); clear hb ho35; obtain ⟨Ao36, co36, eo36⟩ := Kd.R_slice HO351.out; subst eo36) | (go_at_call 37; (with_reducible refine (palaverref02_Tag.calls k3 4 _ _ y349 t352 _ ?side1 ?side2 A28.out).mono ?_); (case side1 => repeat (first | exact (Kd.R_reads' HO351.out).2.2 | (with_reducible refine Kd.C_alloc ?_ _) | (with_reducible refine Kd.C_drewN ?_ _) | (with_reducible refine Kd.C_drew ?_))); (case side2 => exact (Kd.R_reads' HO351.out).2.1); rintro e w37 ⟨rfl, hb⟩; replace HB := Aside0.mk (below_step bl_ hb); replace HO351 := Aside0.mk (Kd.R_below (mv_ HO351.out) hb); replace HO348 := Aside0.mk (Kd.R_below (mv_ HO348.out) hb); replace HO344 := Aside0.mk (Kd.R_below (mv_ HO344.out) hb); (try clear hb); (try clear hb2); (try clear hk); (try clear hi)))
        repeat (go_quiet (first | ((with_reducible refine gate_dst (N := 61) rfl ?_); refine Kd.R_lit Kd.string _ 9 ?hg (N := 61) ?hd (xs := ([x0_3, rdOf ByteArray.empty l2 x12_3] : List ByteArray)) (inner := [.string x0_3, .string (rdOf ByteArray.empty l2 x12_3)]) (ok := fun _ => True) (okp := fun _ => True) ?hr ?hp (fun _ hk => hk) trivial (Below.refl _ _) (Nat.le_refl _) (by simp) ?_; (case hd => rfl); (case hg => rfl); (case hr => exact gr_); (case hp => exact (Reps.one (show Kd.M Kd.string _ _ _ x0_3 [.string x0_3] from rfl) (Reps.one (show Kd.M Kd.string _ _ _ (rdOf ByteArray.empty l2 x12_3) [.string (rdOf ByteArray.empty l2 x12_3)] from rfl) (Reps.none _ _)))); intro v343 w29 ho30 hb hg_ hnew_; clear hg_ hnew_; (first | rw [← Ny342.out] at ho30 | (simp only [Int.reduceToNat] at ho30; rw [← Ny342.out] at ho30)); have HO344 := Aside0.mk (Kd.R_lower (Kd.R_new' ho30 (Kd.R_lt (mv_ HO_11.out))) (below_size bl_)); replace HB := Aside0.mk (below_step bl_ hb); replace HO_11 := Aside0.mk (Kd.R_elder' (mv_ HO_11.out) (Kd.R_base ho30) hb); clear hb ho30; obtain ⟨Ao31, co31, eo31⟩ := Kd.R_slice HO344.out; subst eo31) | (go_at_call 54; (with_reducible refine (palaverref02_Input.calls k3 4 _ _ y342 t345 _ ?side1 ?side2 A26.out).mono ?_); (case side1 => repeat (first | exact (Kd.R_reads' HO344.out).2.2 | (with_reducible refine Kd.C_alloc ?_ _) | (with_reducible refine Kd.C_drewN ?_ _) | (with_reducible refine Kd.C_drew ?_))); (case side2 => exact (Kd.R_reads' HO344.out).2.1); rintro e w32 ⟨rfl, hb⟩; replace HB := Aside0.mk (below_step bl_ hb); replace HO344 := Aside0.mk (Kd.R_below (mv_ HO344.out) hb); replace HO_11 := Aside0.mk (Kd.R_below (mv_ HO_11.out) hb); (try clear hb); (try clear hb2); (try clear hk); (try clear hi)) | ((with_reducible refine gate_builtin (b := .append) (xs := #[.tmp 58, .tmp 63]) rfl ?_); at_builtin; refine Kd.R_append Kd.string (w0 := w) w.heap.size rfl (.tmp 58) (.tmp 63) 22 9 (.string ⟨#[]⟩) 16 rfl Tryd.underlying22 info9 rfl (by decide) (by omega) u11 x11_3 t345 [.string t345] (fun k_ => some k_ ≠ (.slice Ao31 y342.length co31 : Value).ownBlock) (fun _ => False) rfl rfl ?aP (fun _ hk => hk.elim) ?aF ?aO ?aB ?aS ?aL ?_; (case aP => exact rfl); (case aB => exact bl_); (case aF => exact (fun k_ hk => Kd.fresh' (Kd.R_lt (mv_ HO344.out)) k_ hk)); (case aO => exact (by refine mv_ ?_; exact Kd.R_mono HO_11.out (fun _ hk => hk.2))); (case aS => exact (below_size bl_)); (case aL => have := LMc27.out; omega); intro v347 w33 ho hb hg hat; rw [← Ny346.out] at ho; have HO348 := Aside0.mk (ho); replace HB := Aside0.mk (hb); replace HO344 := Aside0.mk (Kd.R_after (ok := (fun _ => True)) (mv_ HO344.out) hg hat); clear HO_11; clear ho hb hg hat) | ((with_reducible refine gate_dst (N := 67) rfl ?_); refine Kd.R_lit Kd.string _ 9 ?hg (N := 67) ?hd (xs := ([x0_3, rdOf ByteArray.empty l2 x12_3] : List ByteArray)) (inner := [.string x0_3, .string (rdOf ByteArray.empty l2 x12_3)]) (ok := fun _ => True) (okp := fun _ => True) ?hr ?hp (fun _ hk => hk) trivial (Below.refl _ _) (Nat.le_refl _) (by simp) ?_; (case hd => rfl); (case hg => rfl); (case hr => exact gr_); (case hp => exact (Reps.one (show Kd.M Kd.string _ _ _ x0_3 [.string x0_3] from rfl) (Reps.one (show Kd.M Kd.string _ _ _ (rdOf ByteArray.empty l2 x12_3) [.string (rdOf ByteArray.empty l2 x12_3)] from rfl) (Reps.none _ _)))); intro v350 w34 ho35 hb hg_ hnew_; clear hg_ hnew_; (first | rw [← Ny349.out] at ho35 | (simp only [Int.reduceToNat] at ho35; rw [← Ny349.out] at ho35)); have HO351 := Aside0.mk (Kd.R_lower (Kd.R_new' (Kd.R_new' ho35 (Kd.R_lt (mv_ HO344.out))) (Kd.R_lt (mv_ HO348.out))) (below_size bl_)); replace HB := Aside0.mk (below_step bl_ hb); replace HO348 := Aside0.mk (Kd.R_elder' (mv_ HO348.out) (Kd.R_base ho35) hb); replace HO344 := Aside0.mk (Kd.R_elder' (mv_ HO344.out) (Kd.R_base ho35) hb); clear hb ho35; obtain ⟨Ao36, co36, eo36⟩ := Kd.R_slice HO351.out; subst eo36) | (go_at_call 37; (with_reducible refine (palaverref02_Tag.calls k3 4 _ _ y349 t352 _ ?side1 ?side2 A28.out).mono ?_); (case side1 => repeat (first | exact (Kd.R_reads' HO351.out).2.2 | (with_reducible refine Kd.C_alloc ?_ _) | (with_reducible refine Kd.C_drewN ?_ _) | (with_reducible refine Kd.C_drew ?_))); (case side2 => exact (Kd.R_reads' HO351.out).2.1); rintro e w37 ⟨rfl, hb⟩; replace HB := Aside0.mk (below_step bl_ hb); replace HO351 := Aside0.mk (Kd.R_below (mv_ HO351.out) hb); replace HO348 := Aside0.mk (Kd.R_below (mv_ HO348.out) hb); replace HO344 := Aside0.mk (Kd.R_below (mv_ HO344.out) hb); (try clear hb); (try clear hb2); (try clear hk); (try clear hi))); try go_wp2_with (first | ((with_reducible refine gate_dst (N := 61) rfl ?_); refine Kd.R_lit Kd.string _ 9 ?hg (N := 61) ?hd (xs := ([x0_3, rdOf ByteArray.empty l2 x12_3] : List ByteArray)) (inner := [.string x0_3, .string (rdOf ByteArray.empty l2 x12_3)]) (ok := fun _ => True) (okp := fun _ => True) ?hr ?hp (fun _ hk => hk) trivial (Below.refl _ _) (Nat.le_refl _) (by simp) ?_; (case hd => rfl); (case hg => rfl); (case hr => exact gr_); (case hp => exact (Reps.one (show Kd.M Kd.string _ _ _ x0_3 [.string x0_3] from rfl) (Reps.one (show Kd.M Kd.string _ _ _ (rdOf ByteArray.empty l2 x12_3) [.string (rdOf ByteArray.empty l2 x12_3)] from rfl) (Reps.none _ _)))); intro v343 w29 ho30 hb hg_ hnew_; clear hg_ hnew_; (first | rw [← Ny342.out] at ho30 | (simp only [Int.reduceToNat] at ho30; rw [← Ny342.out] at ho30)); have HO344 := Aside0.mk (Kd.R_lower (Kd.R_new' ho30 (Kd.R_lt (mv_ HO_11.out))) (below_size bl_)); replace HB := Aside0.mk (below_step bl_ hb); replace HO_11 := Aside0.mk (Kd.R_elder' (mv_ HO_11.out) (Kd.R_base ho30) hb); clear hb ho30; obtain ⟨Ao31, co31, eo31⟩ := Kd.R_slice HO344.out; subst eo31) | (go_at_call 54; (with_reducible refine (palaverref02_Input.calls k3 4 _ _ y342 t345 _ ?side1 ?side2 A26.out).mono ?_); (case side1 => repeat (first | exact (Kd.R_reads' HO344.out).2.2 | (with_reducible refine Kd.C_alloc ?_ _) | (with_reducible refine Kd.C_drewN ?_ _) | (with_reducible refine Kd.C_drew ?_))); (case side2 => exact (Kd.R_reads' HO344.out).2.1); rintro e w32 ⟨rfl, hb⟩; replace HB := Aside0.mk (below_step bl_ hb); replace HO344 := Aside0.mk (Kd.R_below (mv_ HO344.out) hb); replace HO_11 := Aside0.mk (Kd.R_below (mv_ HO_11.out) hb); clear hb) | ((with_reducible refine gate_builtin (b := .append) (xs := #[.tmp 58, .tmp 63]) rfl ?_); at_builtin; refine Kd.R_append Kd.string (w0 := w) w.heap.size rfl (.tmp 58) (.tmp 63) 22 9 (.string ⟨#[]⟩) 16 rfl Tryd.underlying22 info9 rfl (by decide) (by omega) u11 x11_3 t345 [.string t345] (fun k_ => some k_ ≠ (.slice Ao31 y342.length co31 : Value).ownBlock) (fun _ => False) rfl rfl ?aP (fun _ hk => hk.elim) ?aF ?aO ?aB ?aS ?aL ?_; (case aP => exact rfl); (case aB => exact bl_); (case aF => exact (fun k_ hk => Kd.fresh' (Kd.R_lt (mv_ HO344.out)) k_ hk)); (case aO => exact (by refine mv_ ?_; exact Kd.R_mono HO_11.out (fun _ hk => hk.2))); (case aS => exact (below_size bl_)); (case aL => have := LMc27.out; omega); intro v347 w33 ho hb hg hat; rw [← Ny346.out] at ho; have HO348 := Aside0.mk (ho); replace HB := Aside0.mk (hb); replace HO344 := Aside0.mk (Kd.R_after (ok := (fun _ => True)) (mv_ HO344.out) hg hat); clear HO_11; clear ho hb hg hat) | ((with_reducible refine gate_dst (N := 67) rfl ?_); refine Kd.R_lit Kd.string _ 9 ?hg (N := 67) ?hd (xs := ([x0_3, rdOf ByteArray.empty l2 x12_3] : List ByteArray)) (inner := [.string x0_3, .string (rdOf ByteArray.empty l2 x12_3)]) (ok := fun _ => True) (okp := fun _ => True) ?hr ?hp (fun _ hk => hk) trivial (Below.refl _ _) (Nat.le_refl _) (by simp) ?_; (case hd => rfl); (case hg => rfl); (case hr => exact gr_); (case hp => exact (Reps.one (show Kd.M Kd.string _ _ _ x0_3 [.string x0_3] from rfl) (Reps.one (show Kd.M Kd.string _ _ _ (rdOf ByteArray.empty l2 x12_3) [.string (rdOf ByteArray.empty l2 x12_3)] from rfl) (Reps.none _ _)))); intro v350 w34 ho35 hb hg_ hnew_; clear hg_ hnew_; (first | rw [← Ny349.out] at ho35 | (simp only [Int.reduceToNat] at ho35; rw [← Ny349.out] at ho35)); have HO351 := Aside0.mk (Kd.R_lower (Kd.R_new' (Kd.R_new' ho35 (Kd.R_lt (mv_ HO344.out))) (Kd.R_lt (mv_ HO348.out))) (below_size bl_)); replace HB := Aside0.mk (below_step bl_ hb); replace HO348 := Aside0.mk (Kd.R_elder' (mv_ HO348.out) (Kd.R_base ho35) hb); replace HO344 := Aside0.mk (Kd.R_elder' (mv_ HO344.out) (Kd.R_base ho35) hb); clear hb ho35; obtain ⟨Ao36, co36, eo36⟩ := Kd.R_slice HO351.out; subst eo36) | (go_at_call 37; (with_reducible refine (palaverref02_Tag.calls k3 4 _ _ y349 t352 _ ?side1 ?side2 A28.out).mono ?_); (case side1 => repeat (first | exact (Kd.R_reads' HO351.out).2.2 | (with_reducible refine Kd.C_alloc ?_ _) | (with_reducible refine Kd.C_drewN ?_ _) | (with_reducible refine Kd.C_drew ?_))); (case side2 => exact (Kd.R_reads' HO351.out).2.1); rintro e w37 ⟨rfl, hb⟩; replace HB := Aside0.mk (below_step bl_ hb); replace HO351 := Aside0.mk (Kd.R_below (mv_ HO351.out) hb); replace HO348 := Aside0.mk (Kd.R_below (mv_ HO348.out) hb); replace HO344 := Aside0.mk (Kd.R_below (mv_ HO344.out) hb); clear hb)))
        go_roundg k3
        case measure => have := HJ3.out; have := HJ6.out; have := HK3.out; omega
        case rel => exact ⟨(t352), (wrap64 (Int.tdiv x1_3 2)), (y346), (wrap64 (x12_3 + 1)), vq_, vq_, vq_, H', ⟨by have := HJ3.out; have := HJ6.out; have := HK3.out; omega⟩, ⟨by refine mv_ ?_; exact Kd.R_mono HO348.out (fun _ hk => trivial)⟩, ⟨bl_⟩⟩
       rw [if_neg c11] at H
       have c11b0 : decide (x12_3 < (l2.length : Int)) = false := decide_eq_false c11
       clear c11
       simp only [Option.some.injEq, Prod.mk.injEq] at H
       obtain ⟨rfl, rfl, rfl⟩ := H
       go_wp2
       repeat (go_quiet (fail); try go_wp2)
       go_ret3
       exact ⟨_, er_, mv_ HO_11.out, bl_⟩

end Go.Proofs.YtmedpnclkbkiiaaDoor.PP
