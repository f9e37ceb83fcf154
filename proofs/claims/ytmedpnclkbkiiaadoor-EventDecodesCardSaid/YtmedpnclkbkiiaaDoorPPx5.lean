-- WRITTEN BY a program of this work (wip/ownprint.py), for this seat
import Derived.Test.YtmedpnclkbkiiaaDoorPPx0
import Derived.Test.YtmedpnclkbkiiaaDoorPPx4
namespace Go.Proofs.YtmedpnclkbkiiaaDoor.PP
open Go.RowKit Go.Proofs.YtmedpnclkbkiiaaDoorW.PrintWords Go.Proofs.YtmedpnclkbkiiaaDoorW.PrintLast Go.Proofs.YtmedpnclkbkiiaaDoorW.PrintMore
attribute [local go_sem] max2_int min2_int max_two min_two max_three min_three max_four min_four   -- for this text's walks alone
set_option linter.unusedVariables false
set_option linter.unusedSimpArgs false

/-! ### palaverref02_Sum: function 53 -/
mutual
def palaverref02_Sum.l0 : Nat → List Int → List Int → ByteArray → Int → Option (ByteArray)
 | 0, _, _, _, _ => none
 | k + 1, x3, x4, x5, x6 => if x6 < (x5.size : Int) then (palaverref02_Sum.l1 k x3 x4 x5 x6 (List.replicate 64 0) 0) else (palaverref02_Sum.l4 k x3 ([] : List Int) 0)
def palaverref02_Sum.l1 : Nat → List Int → List Int → ByteArray → Int → List Int → Int → Option (ByteArray)
 | 0, _, _, _, _, _, _ => none
 | k + 1, x3, x4, x5, x6, x7, x8 => if x8 < 64 then (if x8 < 16 then (if 0 ≤ (wrap64 (x6 + (wrap64 (4 * x8)))) then (if (wrap64 (x6 + (wrap64 (4 * x8)))) < (x5.size : Int) then (if 0 ≤ (wrap64 ((wrap64 (x6 + (wrap64 (4 * x8)))) + 1)) then (if (wrap64 ((wrap64 (x6 + (wrap64 (4 * x8)))) + 1)) < (x5.size : Int) then (if 0 ≤ (wrap64 ((wrap64 (x6 + (wrap64 (4 * x8)))) + 2)) then (if (wrap64 ((wrap64 (x6 + (wrap64 (4 * x8)))) + 2)) < (x5.size : Int) then (if 0 ≤ (wrap64 ((wrap64 (x6 + (wrap64 (4 * x8)))) + 3)) then (if (wrap64 ((wrap64 (x6 + (wrap64 (4 * x8)))) + 3)) < (x5.size : Int) then (if x7.length = 64 then (if 0 ≤ x8 then (if x8 < (x7.length : Int) then (palaverref02_Sum.l1 k x3 x4 x5 x6 (x7.set (x8 : Int).toNat (((((((bt x5 (wrap64 (x6 + (wrap64 (4 * x8))))) % 4294967296) * 16777216) + (((bt x5 (wrap64 ((wrap64 (x6 + (wrap64 (4 * x8)))) + 1))) % 4294967296) * 65536)) + (((bt x5 (wrap64 ((wrap64 (x6 + (wrap64 (4 * x8)))) + 2))) % 4294967296) * 256)) + (bt x5 (wrap64 ((wrap64 (x6 + (wrap64 (4 * x8)))) + 3)))) % 4294967296)) (wrap64 (x8 + 1))) else (none)) else (none)) else (none)) else (none)) else (none)) else (none)) else (none)) else (none)) else (none)) else (none)) else (none)) else (if x7.length = 64 then (if 0 ≤ (wrap64 (x8 - 15)) then (if (wrap64 (x8 - 15)) < (x7.length : Int) then ((palaverref02_turn.f (rd x7 (wrap64 (x8 - 15))) 7).bind fun t194 => ((palaverref02_turn.f (rd x7 (wrap64 (x8 - 15))) 18).bind fun t196 => (if 0 ≤ (wrap64 (x8 - 2)) then (if (wrap64 (x8 - 2)) < (x7.length : Int) then ((palaverref02_turn.f (rd x7 (wrap64 (x8 - 2))) 17).bind fun t199 => ((palaverref02_turn.f (rd x7 (wrap64 (x8 - 2))) 19).bind fun t201 => (if 0 ≤ (wrap64 (x8 - 16)) then (if (wrap64 (x8 - 16)) < (x7.length : Int) then (if 0 ≤ (wrap64 (x8 - 7)) then (if (wrap64 (x8 - 7)) < (x7.length : Int) then (if 0 ≤ x8 then (if x8 < (x7.length : Int) then (palaverref02_Sum.l1 k x3 x4 x5 x6 (x7.set (x8 : Int).toNat (((((rd x7 (wrap64 (x8 - 16))) + (Go.bits .xor .u32 (Go.bits .xor .u32 t194 t196) ((rd x7 (wrap64 (x8 - 15))) / 8))) + (rd x7 (wrap64 (x8 - 7)))) + (Go.bits .xor .u32 (Go.bits .xor .u32 t199 t201) ((rd x7 (wrap64 (x8 - 2))) / 1024))) % 4294967296)) (wrap64 (x8 + 1))) else (none)) else (none)) else (none)) else (none)) else (none)) else (none)))) else (none)) else (none)))) else (none)) else (none)) else (none))) else (if x3.length = 8 then (if 0 < (x3.length : Int) then (if 1 < (x3.length : Int) then (if 2 < (x3.length : Int) then (if 3 < (x3.length : Int) then (if 4 < (x3.length : Int) then (if 5 < (x3.length : Int) then (if 6 < (x3.length : Int) then (if 7 < (x3.length : Int) then (palaverref02_Sum.l2 k x3 x4 x5 x6 x7 (rd x3 0) (rd x3 1) (rd x3 2) (rd x3 3) (rd x3 4) (rd x3 5) (rd x3 6) (rd x3 7) 0) else (none)) else (none)) else (none)) else (none)) else (none)) else (none)) else (none)) else (none)) else (none))
def palaverref02_Sum.l2 : Nat → List Int → List Int → ByteArray → Int → List Int → Int → Int → Int → Int → Int → Int → Int → Int → Int → Option (ByteArray)
 | 0, _, _, _, _, _, _, _, _, _, _, _, _, _, _ => none
 | k + 1, x3, x4, x5, x6, x7, x11, x12, x13, x14, x15, x16, x17, x18, x19 => if x19 < 64 then ((palaverref02_turn.f x15 6).bind fun t214 => ((palaverref02_turn.f x15 11).bind fun t215 => ((palaverref02_turn.f x15 25).bind fun t216 => (if x4.length = 64 then (if 0 ≤ x19 then (if x19 < (x4.length : Int) then (if x7.length = 64 then (if x19 < (x7.length : Int) then ((palaverref02_turn.f x11 2).bind fun t219 => ((palaverref02_turn.f x11 13).bind fun t220 => ((palaverref02_turn.f x11 22).bind fun t221 => (palaverref02_Sum.l2 k x3 x4 x5 x6 x7 ((((((x18 + (Go.bits .xor .u32 (Go.bits .xor .u32 t214 t215) t216)) + (Go.bits .xor .u32 (Go.bits .and .u32 x15 x16) (Go.bits .and .u32 (Go.bits .xor .u32 4294967295 x15) x17))) + (rd x4 x19)) + (rd x7 x19)) + ((Go.bits .xor .u32 (Go.bits .xor .u32 t219 t220) t221) + (Go.bits .xor .u32 (Go.bits .xor .u32 (Go.bits .and .u32 x11 x12) (Go.bits .and .u32 x11 x13)) (Go.bits .and .u32 x12 x13)))) % 4294967296) x11 x12 x13 ((x14 + ((((x18 + (Go.bits .xor .u32 (Go.bits .xor .u32 t214 t215) t216)) + (Go.bits .xor .u32 (Go.bits .and .u32 x15 x16) (Go.bits .and .u32 (Go.bits .xor .u32 4294967295 x15) x17))) + (rd x4 x19)) + (rd x7 x19))) % 4294967296) x15 x16 x17 (wrap64 (x19 + 1)))))) else (none)) else (none)) else (none)) else (none)) else (none))))) else ((some (List.replicate 8 0 : List Int)).bind fun y222 => (if y222.length = 8 then (if 0 < (y222.length : Int) then (palaverref02_Sum.l3 k x3 x4 x5 x6 ([x11, x12, x13, x14, x15, x16, x17, x18]) 0) else (none)) else (none)))
def palaverref02_Sum.l3 : Nat → List Int → List Int → ByteArray → Int → List Int → Int → Option (ByteArray)
 | 0, _, _, _, _, _, _ => none
 | k + 1, x3, x4, x5, x6, x26, x27 => if x27 < 8 then (if x3.length = 8 then (if 0 ≤ x27 then (if x27 < (x3.length : Int) then (if x26.length = 8 then (if x27 < (x26.length : Int) then (palaverref02_Sum.l3 k (x3.set (x27 : Int).toNat (((rd x3 x27) + (rd x26 x27)) % 4294967296)) x4 x5 x6 x26 (wrap64 (x27 + 1))) else (none)) else (none)) else (none)) else (none)) else (none)) else (palaverref02_Sum.l0 k x3 x4 x5 (wrap64 (x6 + 64)))
def palaverref02_Sum.l4 : Nat → List Int → List Int → Int → Option (ByteArray)
 | 0, _, _, _ => none
 | k + 1, x3, x28, x29 => if x29 < 8 then (if x3.length = 8 then (if 0 ≤ x29 then (if x29 < (x3.length : Int) then ((some (([((rd x3 x29) / 16777216) % 256, ((rd x3 x29) / 65536) % 256, ((rd x3 x29) / 256) % 256, (rd x3 x29) % 256] : List Int) : List Int)).bind fun y233 => (if x28.length + y233.length < 140737488355328 then (palaverref02_Sum.l4 k x3 (x28 ++ y233) (wrap64 (x29 + 1))) else (none))) else (none)) else (none)) else (none)) else (some (strOfNums x28))
end
def palaverref02_Sum.f (k : Nat) (a0 : ByteArray) : Option (ByteArray) := (palaverref02_Starts.f).bind fun _ => ((some (List.replicate 8 0 : List Int)).bind fun y180 => (if y180.length = 8 then (if 0 < (y180.length : Int) then ((palaverref02_table.f).bind fun _ => ((some (List.replicate 64 0 : List Int)).bind fun y184 => (if y184.length = 64 then (if 0 < (y184.length : Int) then ((palaverref02_Padded.f k a0).bind fun t188 => (palaverref02_Sum.l0 k ([1779033703, 3144134277, 1013904242, 2773480762, 1359893119, 2600822924, 528734635, 1541459225]) ([1116352408, 1899447441, 3049323471, 3921009573, 961987163, 1508970993, 2453635748, 2870763221, 3624381080, 310598401, 607225278, 1426881987, 1925078388, 2162078206, 2614888103, 3248222580, 3835390401, 4022224774, 264347078, 604807628, 770255983, 1249150122, 1555081692, 1996064986, 2554220882, 2821834349, 2952996808, 3210313671, 3336571891, 3584528711, 113926993, 338241895, 666307205, 773529912, 1294757372, 1396182291, 1695183700, 1986661051, 2177026350, 2456956037, 2730485921, 2820302411, 3259730800, 3345764771, 3516065817, 3600352804, 4094571909, 275423344, 430227734, 506948616, 659060556, 883997877, 958139571, 1322822218, 1537002063, 1747873779, 1955562222, 2024104815, 2227730452, 2361852424, 2428436474, 2756734187, 3204031479, 3329325298]) t188 0)) else (none)) else (none)))) else (none)) else (none)))
theorem palaverref02_Sum.mono_l : ∀ k, (∀ y0 y1 y2 y3, LeO (palaverref02_Sum.l0 k y0 y1 y2 y3) (palaverref02_Sum.l0 (k + 1) y0 y1 y2 y3)) ∧ (∀ y0 y1 y2 y3 y4 y5, LeO (palaverref02_Sum.l1 k y0 y1 y2 y3 y4 y5) (palaverref02_Sum.l1 (k + 1) y0 y1 y2 y3 y4 y5)) ∧ (∀ y0 y1 y2 y3 y4 y5 y6 y7 y8 y9 y10 y11 y12 y13, LeO (palaverref02_Sum.l2 k y0 y1 y2 y3 y4 y5 y6 y7 y8 y9 y10 y11 y12 y13) (palaverref02_Sum.l2 (k + 1) y0 y1 y2 y3 y4 y5 y6 y7 y8 y9 y10 y11 y12 y13)) ∧ (∀ y0 y1 y2 y3 y4 y5, LeO (palaverref02_Sum.l3 k y0 y1 y2 y3 y4 y5) (palaverref02_Sum.l3 (k + 1) y0 y1 y2 y3 y4 y5)) ∧ (∀ y0 y1 y2, LeO (palaverref02_Sum.l4 k y0 y1 y2) (palaverref02_Sum.l4 (k + 1) y0 y1 y2))
 | 0 => ⟨fun _ _ _ _ r h => by simp [palaverref02_Sum.l0] at h, fun _ _ _ _ _ _ r h => by simp [palaverref02_Sum.l1] at h, fun _ _ _ _ _ _ _ _ _ _ _ _ _ _ r h => by simp [palaverref02_Sum.l2] at h, fun _ _ _ _ _ _ r h => by simp [palaverref02_Sum.l3] at h, fun _ _ _ r h => by simp [palaverref02_Sum.l4] at h⟩
 | k + 1 => by
  obtain ⟨ih0, ih1, ih2, ih3, ih4⟩ := palaverref02_Sum.mono_l k
  refine ⟨?_, ?_, ?_, ?_, ?_⟩
  ·intro y0 y1 y2 y3
   unfold palaverref02_Sum.l0
   repeat' first
   | (with_reducible exact ih0 _ _ _ _)
   | (with_reducible exact ih1 _ _ _ _ _ _)
   | (with_reducible exact ih2 _ _ _ _ _ _ _ _ _ _ _ _ _ _)
   | (with_reducible exact ih3 _ _ _ _ _ _)
   | (with_reducible exact ih4 _ _ _)
   | (with_reducible exact palaverref02_Padded.mono _ _)
   | (with_reducible exact LeO.refl _)
   | (with_reducible exact LeO.none _)
   | (with_reducible refine LeO.ite ?_ ?_)
   | (with_reducible refine LeO.bind ?_ (fun _ => ?_))
   | exact ih0 _ _ _ _
   | exact ih1 _ _ _ _ _ _
   | exact ih2 _ _ _ _ _ _ _ _ _ _ _ _ _ _
   | exact ih3 _ _ _ _ _ _
   | exact ih4 _ _ _
   | exact palaverref02_Padded.mono _ _
   | exact LeO.none _
   | refine LeO.ite ?_ ?_
   | refine LeO.bind ?_ (fun _ => ?_)
  ·intro y0 y1 y2 y3 y4 y5
   unfold palaverref02_Sum.l1
   repeat' first
   | (with_reducible exact ih0 _ _ _ _)
   | (with_reducible exact ih1 _ _ _ _ _ _)
   | (with_reducible exact ih2 _ _ _ _ _ _ _ _ _ _ _ _ _ _)
   | (with_reducible exact ih3 _ _ _ _ _ _)
   | (with_reducible exact ih4 _ _ _)
   | (with_reducible exact palaverref02_Padded.mono _ _)
   | (with_reducible exact LeO.refl _)
   | (with_reducible exact LeO.none _)
   | (with_reducible refine LeO.ite ?_ ?_)
   | (with_reducible refine LeO.bind ?_ (fun _ => ?_))
   | exact ih0 _ _ _ _
   | exact ih1 _ _ _ _ _ _
   | exact ih2 _ _ _ _ _ _ _ _ _ _ _ _ _ _
   | exact ih3 _ _ _ _ _ _
   | exact ih4 _ _ _
   | exact palaverref02_Padded.mono _ _
   | exact LeO.none _
   | refine LeO.ite ?_ ?_
   | refine LeO.bind ?_ (fun _ => ?_)
  ·intro y0 y1 y2 y3 y4 y5 y6 y7 y8 y9 y10 y11 y12 y13
   unfold palaverref02_Sum.l2
   repeat' first
   | (with_reducible exact ih0 _ _ _ _)
   | (with_reducible exact ih1 _ _ _ _ _ _)
   | (with_reducible exact ih2 _ _ _ _ _ _ _ _ _ _ _ _ _ _)
   | (with_reducible exact ih3 _ _ _ _ _ _)
   | (with_reducible exact ih4 _ _ _)
   | (with_reducible exact palaverref02_Padded.mono _ _)
   | (with_reducible exact LeO.refl _)
   | (with_reducible exact LeO.none _)
   | (with_reducible refine LeO.ite ?_ ?_)
   | (with_reducible refine LeO.bind ?_ (fun _ => ?_))
   | exact ih0 _ _ _ _
   | exact ih1 _ _ _ _ _ _
   | exact ih2 _ _ _ _ _ _ _ _ _ _ _ _ _ _
   | exact ih3 _ _ _ _ _ _
   | exact ih4 _ _ _
   | exact palaverref02_Padded.mono _ _
   | exact LeO.none _
   | refine LeO.ite ?_ ?_
   | refine LeO.bind ?_ (fun _ => ?_)
  ·intro y0 y1 y2 y3 y4 y5
   unfold palaverref02_Sum.l3
   repeat' first
   | (with_reducible exact ih0 _ _ _ _)
   | (with_reducible exact ih1 _ _ _ _ _ _)
   | (with_reducible exact ih2 _ _ _ _ _ _ _ _ _ _ _ _ _ _)
   | (with_reducible exact ih3 _ _ _ _ _ _)
   | (with_reducible exact ih4 _ _ _)
   | (with_reducible exact palaverref02_Padded.mono _ _)
   | (with_reducible exact LeO.refl _)
   | (with_reducible exact LeO.none _)
   | (with_reducible refine LeO.ite ?_ ?_)
   | (with_reducible refine LeO.bind ?_ (fun _ => ?_))
   | exact ih0 _ _ _ _
   | exact ih1 _ _ _ _ _ _
   | exact ih2 _ _ _ _ _ _ _ _ _ _ _ _ _ _
   | exact ih3 _ _ _ _ _ _
   | exact ih4 _ _ _
   | exact palaverref02_Padded.mono _ _
   | exact LeO.none _
   | refine LeO.ite ?_ ?_
   | refine LeO.bind ?_ (fun _ => ?_)
  intro y0 y1 y2
  unfold palaverref02_Sum.l4
  repeat' first
  | (with_reducible exact ih0 _ _ _ _)
  | (with_reducible exact ih1 _ _ _ _ _ _)
  | (with_reducible exact ih2 _ _ _ _ _ _ _ _ _ _ _ _ _ _)
  | (with_reducible exact ih3 _ _ _ _ _ _)
  | (with_reducible exact ih4 _ _ _)
  | (with_reducible exact palaverref02_Padded.mono _ _)
  | (with_reducible exact LeO.refl _)
  | (with_reducible exact LeO.none _)
  | (with_reducible refine LeO.ite ?_ ?_)
  | (with_reducible refine LeO.bind ?_ (fun _ => ?_))
  | exact ih0 _ _ _ _
  | exact ih1 _ _ _ _ _ _
  | exact ih2 _ _ _ _ _ _ _ _ _ _ _ _ _ _
  | exact ih3 _ _ _ _ _ _
  | exact ih4 _ _ _
  | exact palaverref02_Padded.mono _ _
  | exact LeO.none _
  | refine LeO.ite ?_ ?_
  | refine LeO.bind ?_ (fun _ => ?_)
theorem palaverref02_Sum.mono : ∀ a0 k, LeO (palaverref02_Sum.f k a0) (palaverref02_Sum.f (k + 1) a0) := by
 intro a0 k
 obtain ⟨ih0, ih1, ih2, ih3, ih4⟩ := palaverref02_Sum.mono_l k
 unfold palaverref02_Sum.f
 repeat' first
  | (with_reducible exact ih0 _ _ _ _)
  | (with_reducible exact ih1 _ _ _ _ _ _)
  | (with_reducible exact ih2 _ _ _ _ _ _ _ _ _ _ _ _ _ _)
  | (with_reducible exact ih3 _ _ _ _ _ _)
  | (with_reducible exact ih4 _ _ _)
  | (with_reducible exact palaverref02_Padded.mono _ _)
  | (with_reducible exact LeO.refl _)
  | (with_reducible exact LeO.none _)
  | (with_reducible refine LeO.ite ?_ ?_)
  | (with_reducible refine LeO.bind ?_ (fun _ => ?_))
  | exact ih0 _ _ _ _
  | exact ih1 _ _ _ _ _ _
  | exact ih2 _ _ _ _ _ _ _ _ _ _ _ _ _ _
  | exact ih3 _ _ _ _ _ _
  | exact ih4 _ _ _
  | exact palaverref02_Padded.mono _ _
  | exact LeO.none _
  | refine LeO.ite ?_ ?_
  | refine LeO.bind ?_ (fun _ => ?_)
def palaverref02_Sum.T12 : Bool × List (List Nat × List Nat) := (true, [([], []), ([], []), ([], []), ([], []), ([3], [3]), ([2, 4], [2, 4]), ([1, 5], [1, 5]), ([6], [6]), ([7], [7]), ([], []), ([], []), ([], []), ([11], [11]), ([10, 12], [10, 12]), ([13], [13]), ([9, 14], [9, 14]), ([15], [15]), ([16], [16]), ([8, 17], [8, 17]), ([], []), ([], []), ([], []), ([21], [21]), ([20, 22], [20, 22]), ([23], [23]), ([19, 24], [19, 24]), ([25], [25]), ([26], [26]), ([18, 27], [18, 27]), ([], []), ([], []), ([], []), ([31], [31]), ([30, 32], [30, 32]), ([33], [33]), ([29, 34], [29, 34]), ([35], [35]), ([28, 36], [28, 36]), ([0, 0, 1, 2, 3, 4, 5, 6, 7, 8, 9, 10, 11, 12, 13, 14, 15, 16, 17, 18, 19, 20, 21, 22, 23, 24, 25, 26, 27, 28, 29, 30, 31, 32, 33, 34, 35, 36, 37], [0]), ([38, 37, 0, 1, 2, 3, 4, 5, 6, 7, 8, 9, 10, 11, 12, 13, 14, 15, 16, 17, 18, 19, 20, 21, 22, 23, 24, 25, 26, 27, 28, 29, 30, 31, 32, 33, 34, 35, 36, 37], [37, 38])])
def palaverref02_Sum.B12 : List Nat := [0, 0, 0, 0, 8, 28, 62, 126, 254, 0, 0, 0, 2048, 7168, 15360, 32256, 65024, 130560, 262142, 0, 0, 0, 2097152, 7340032, 15728640, 33030144, 66584576, 133693440, 268435454, 0, 0, 0, 2147483648, 7516192768, 16106127360, 33822867456, 68182605824, 137438953470, 274877906943, 549755813887]
theorem palaverref02_Sum.tab12 : rtab .any (opsOf Tryd.f53 12) = palaverref02_Sum.T12 := by kernel_rfl
theorem palaverref02_Sum.bits12 : waitsOk palaverref02_Sum.T12.2 palaverref02_Sum.B12 = true := by kernel_rfl
def palaverref02_Sum.T13 : Bool × List (List Nat × List Nat) := (true, [([], []), ([0], [0]), ([1], [1]), ([2], [2]), ([3], [3]), ([], []), ([5], [5]), ([6], [6]), ([7], [7]), ([8, 4], [8]), ([4, 9], [4, 9]), ([], []), ([11], [11]), ([12], [12]), ([13], [13]), ([14], [14]), ([10, 15], [10, 15]), ([16, 9, 0, 1, 2, 3, 4, 5, 6, 7, 8, 9, 10, 11, 12, 13, 14, 15, 16], [16])])
def palaverref02_Sum.B13 : List Nat := [0, 1, 3, 7, 15, 0, 32, 96, 224, 511, 1023, 0, 2048, 6144, 14336, 30720, 65535, 131071]
theorem palaverref02_Sum.tab13 : rtab .any (opsOf Tryd.f53 13) = palaverref02_Sum.T13 := by kernel_rfl
theorem palaverref02_Sum.bits13 : waitsOk palaverref02_Sum.T13.2 palaverref02_Sum.B13 = true := by kernel_rfl
def palaverref02_Sum.T14 : Bool × List (List Nat × List Nat) := (true, [([], []), ([0], [0]), ([1], [1]), ([2], [2]), ([3], [3]), ([], []), ([5], [5]), ([6], [6]), ([7], [7]), ([8, 4], [8]), ([4, 9], [4, 9]), ([], []), ([11], [11]), ([12], [12]), ([13], [13]), ([14], [14]), ([10, 15], [10, 15]), ([16, 9, 0, 1, 2, 3, 4, 5, 6, 7, 8, 9, 10, 11, 12, 13, 14, 15, 16], [16])])
def palaverref02_Sum.B14 : List Nat := [0, 1, 3, 7, 15, 0, 32, 96, 224, 511, 1023, 0, 2048, 6144, 14336, 30720, 65535, 131071]
theorem palaverref02_Sum.tab14 : rtab .any (opsOf Tryd.f53 14) = palaverref02_Sum.T14 := by kernel_rfl
theorem palaverref02_Sum.bits14 : waitsOk palaverref02_Sum.T14.2 palaverref02_Sum.B14 = true := by kernel_rfl
def palaverref02_Sum.T15 : Bool × List (List Nat × List Nat) := (true, [([], []), ([], []), ([1], [1]), ([2], [2]), ([3], [3]), ([], []), ([4, 5], [4, 5]), ([], []), ([7], [7]), ([8], [8]), ([9], [9]), ([6, 10], [6, 10]), ([], []), ([11, 12], [11, 12]), ([0, 0, 1, 2, 3, 4, 5, 6, 7, 8, 9, 10, 11, 12, 13], [0]), ([14, 13, 0, 1, 2, 3, 4, 5, 6, 7, 8, 9, 10, 11, 12, 13], [13, 14])])
def palaverref02_Sum.B15 : List Nat := [0, 0, 2, 6, 14, 0, 62, 0, 128, 384, 896, 2046, 0, 8190, 16383, 32767]
theorem palaverref02_Sum.tab15 : rtab .any (opsOf Tryd.f53 15) = palaverref02_Sum.T15 := by kernel_rfl
theorem palaverref02_Sum.bits15 : waitsOk palaverref02_Sum.T15.2 palaverref02_Sum.B15 = true := by kernel_rfl
def palaverref02_Sum.T16 : Bool × List (List Nat × List Nat) := (true, [([], []), ([0], [0]), ([], []), ([2], [2]), ([], []), ([4], [4]), ([], []), ([6], [6]), ([], []), ([8], [8]), ([], []), ([10], [10]), ([], []), ([12], [12]), ([], []), ([14], [14]), ([1, 0, 1], [1]), ([3, 16, 0, 1, 2, 3, 16], [3]), ([5, 17, 0, 1, 2, 3, 4, 5, 16, 17], [5]), ([7, 18, 0, 1, 2, 3, 4, 5, 6, 7, 16, 17, 18], [7]), ([9, 19, 0, 1, 2, 3, 4, 5, 6, 7, 8, 9, 16, 17, 18, 19], [9]), ([11, 20, 0, 1, 2, 3, 4, 5, 6, 7, 8, 9, 10, 11, 16, 17, 18, 19, 20], [11]), ([13, 21, 0, 1, 2, 3, 4, 5, 6, 7, 8, 9, 10, 11, 12, 13, 16, 17, 18, 19, 20, 21], [13]), ([15, 22, 0, 1, 2, 3, 4, 5, 6, 7, 8, 9, 10, 11, 12, 13, 14, 15, 16, 17, 18, 19, 20, 21, 22], [15])])
def palaverref02_Sum.B16 : List Nat := [0, 1, 0, 4, 0, 16, 0, 64, 0, 256, 0, 1024, 0, 4096, 0, 16384, 3, 65551, 196671, 459007, 984063, 2035711, 4145151, 8388607]
theorem palaverref02_Sum.tab16 : rtab .any (opsOf Tryd.f53 16) = palaverref02_Sum.T16 := by kernel_rfl
theorem palaverref02_Sum.bits16 : waitsOk palaverref02_Sum.T16.2 palaverref02_Sum.B16 = true := by kernel_rfl
def palaverref02_Sum.T22 : Bool × List (List Nat × List Nat) := (true, [([], []), ([], []), ([0, 1], [0, 1]), ([], []), ([2, 3], [2, 3]), ([], []), ([5], [5]), ([6], [6]), ([4, 7], [4, 7]), ([], []), ([9], [9]), ([10], [10]), ([8, 11], [8, 11]), ([12, 0, 1, 2, 3, 4, 5, 6, 7, 8, 9, 10, 11, 12], [12])])
def palaverref02_Sum.B22 : List Nat := [0, 0, 3, 0, 15, 0, 32, 96, 255, 0, 512, 1536, 4095, 8191]
theorem palaverref02_Sum.tab22 : rtab .any (opsOf Tryd.f53 22) = palaverref02_Sum.T22 := by kernel_rfl
theorem palaverref02_Sum.bits22 : waitsOk palaverref02_Sum.T22.2 palaverref02_Sum.B22 = true := by kernel_rfl
def palaverref02_Sum.T38 : Bool × List (List Nat × List Nat) := (true, [([], []), ([], []), ([1], [1]), ([2], [2]), ([], []), ([4], [4]), ([5], [5]), ([3, 6], [3, 6]), ([0, 0, 1, 2, 3, 4, 5, 6, 7], [0]), ([8, 7, 0, 1, 2, 3, 4, 5, 6, 7], [7, 8])])
def palaverref02_Sum.B38 : List Nat := [0, 0, 2, 6, 0, 16, 48, 126, 255, 511]
theorem palaverref02_Sum.tab38 : rtab .any (opsOf Tryd.f53 38) = palaverref02_Sum.T38 := by kernel_rfl
theorem palaverref02_Sum.bits38 : waitsOk palaverref02_Sum.T38.2 palaverref02_Sum.B38 = true := by kernel_rfl
def palaverref02_Sum.T43 : Bool × List (List Nat × List Nat) := (true, [([], []), ([], []), ([1], [1]), ([2], [2]), ([3], [3]), ([4], [4]), ([], []), ([6], [6]), ([7], [7]), ([8], [8]), ([9], [9]), ([], []), ([11], [11]), ([12], [12]), ([13], [13]), ([14], [14]), ([], []), ([16], [16]), ([17], [17]), ([18], [18]), ([5, 10, 15, 19], [5, 10, 15, 19]), ([0, 20], [0, 20]), ([21, 21, 0, 1, 2, 3, 4, 5, 6, 7, 8, 9, 10, 11, 12, 13, 14, 15, 16, 17, 18, 19, 20, 21], [0, 21])])
def palaverref02_Sum.B43 : List Nat := [0, 0, 2, 6, 14, 30, 0, 64, 192, 448, 960, 0, 2048, 6144, 14336, 30720, 0, 65536, 196608, 458752, 1048574, 2097151, 4194303]
theorem palaverref02_Sum.tab43 : rtab .any (opsOf Tryd.f53 43) = palaverref02_Sum.T43 := by kernel_rfl
theorem palaverref02_Sum.bits43 : waitsOk palaverref02_Sum.T43.2 palaverref02_Sum.B43 = true := by kernel_rfl
set_option maxHeartbeats 64000000 in
set_option maxRecDepth 100000 in
theorem palaverref02_Sum.calls (k : Nat) (a0 : ByteArray) (r : ByteArray) (w : World) (h : palaverref02_Sum.f k a0 = some r) :
 Calls Tryd.prog 53 #[.string a0] w fun e w' => e = .returned (.string r) ∧ Below w.heap.size w w' := by
 have hu105 := Tryd.underlying105
 have hu113 := Tryd.underlying113
 have HB := Aside0.mk (Below.refl w.heap.size w)
 have H : ((palaverref02_Starts.f).bind fun _ => ((some (List.replicate 8 0 : List Int)).bind fun y180 => (if y180.length = 8 then (if 0 < (y180.length : Int) then ((palaverref02_table.f).bind fun _ => ((some (List.replicate 64 0 : List Int)).bind fun y184 => (if y184.length = 64 then (if 0 < (y184.length : Int) then ((palaverref02_Padded.f k a0).bind fun t188 => (palaverref02_Sum.l0 k ([1779033703, 3144134277, 1013904242, 2773480762, 1359893119, 2600822924, 528734635, 1541459225]) ([1116352408, 1899447441, 3049323471, 3921009573, 961987163, 1508970993, 2453635748, 2870763221, 3624381080, 310598401, 607225278, 1426881987, 1925078388, 2162078206, 2614888103, 3248222580, 3835390401, 4022224774, 264347078, 604807628, 770255983, 1249150122, 1555081692, 1996064986, 2554220882, 2821834349, 2952996808, 3210313671, 3336571891, 3584528711, 113926993, 338241895, 666307205, 773529912, 1294757372, 1396182291, 1695183700, 1986661051, 2177026350, 2456956037, 2730485921, 2820302411, 3259730800, 3345764771, 3516065817, 3600352804, 4094571909, 275423344, 430227734, 506948616, 659060556, 883997877, 958139571, 1322822218, 1537002063, 1747873779, 1955562222, 2024104815, 2227730452, 2361852424, 2428436474, 2756734187, 3204031479, 3329325298]) t188 0)) else (none)) else (none)))) else (none)) else (none)))) = some r := h
 clear h
 replace H := ob_ H
 obtain ⟨_, A20, H⟩ := H
 replace H : ((some (List.replicate 8 0 : List Int)).bind fun y180 => (if y180.length = 8 then (if 0 < (y180.length : Int) then ((palaverref02_table.f).bind fun _ => ((some (List.replicate 64 0 : List Int)).bind fun y184 => (if y184.length = 64 then (if 0 < (y184.length : Int) then ((palaverref02_Padded.f k a0).bind fun t188 => (palaverref02_Sum.l0 k ([1779033703, 3144134277, 1013904242, 2773480762, 1359893119, 2600822924, 528734635, 1541459225]) ([1116352408, 1899447441, 3049323471, 3921009573, 961987163, 1508970993, 2453635748, 2870763221, 3624381080, 310598401, 607225278, 1426881987, 1925078388, 2162078206, 2614888103, 3248222580, 3835390401, 4022224774, 264347078, 604807628, 770255983, 1249150122, 1555081692, 1996064986, 2554220882, 2821834349, 2952996808, 3210313671, 3336571891, 3584528711, 113926993, 338241895, 666307205, 773529912, 1294757372, 1396182291, 1695183700, 1986661051, 2177026350, 2456956037, 2730485921, 2820302411, 3259730800, 3345764771, 3516065817, 3600352804, 4094571909, 275423344, 430227734, 506948616, 659060556, 883997877, 958139571, 1322822218, 1537002063, 1747873779, 1955562222, 2024104815, 2227730452, 2361852424, 2428436474, 2756734187, 3204031479, 3329325298]) t188 0)) else (none)) else (none)))) else (none)) else (none))) = some r := H
 have A2 := Aside0.mk A20
 clear A20
 obtain ⟨y180, hy180⟩ : ∃ y_ : List Int, y_ = (List.replicate 8 0) := ⟨_, rfl⟩
 replace H : (if y180.length = 8 then (if 0 < (y180.length : Int) then ((palaverref02_table.f).bind fun _ => ((some (List.replicate 64 0 : List Int)).bind fun y184 => (if y184.length = 64 then (if 0 < (y184.length : Int) then ((palaverref02_Padded.f k a0).bind fun t188 => (palaverref02_Sum.l0 k ([1779033703, 3144134277, 1013904242, 2773480762, 1359893119, 2600822924, 528734635, 1541459225]) ([1116352408, 1899447441, 3049323471, 3921009573, 961987163, 1508970993, 2453635748, 2870763221, 3624381080, 310598401, 607225278, 1426881987, 1925078388, 2162078206, 2614888103, 3248222580, 3835390401, 4022224774, 264347078, 604807628, 770255983, 1249150122, 1555081692, 1996064986, 2554220882, 2821834349, 2952996808, 3210313671, 3336571891, 3584528711, 113926993, 338241895, 666307205, 773529912, 1294757372, 1396182291, 1695183700, 1986661051, 2177026350, 2456956037, 2730485921, 2820302411, 3259730800, 3345764771, 3516065817, 3600352804, 4094571909, 275423344, 430227734, 506948616, 659060556, 883997877, 958139571, 1322822218, 1537002063, 1747873779, 1955562222, 2024104815, 2227730452, 2361852424, 2428436474, 2756734187, 3204031479, 3329325298]) t188 0)) else (none)) else (none)))) else (none)) else (none)) = some r := by first | (rw [hy180]; with_reducible exact H) | (have H2_ := (Option.bind_some _ _).symm.trans H; rw [hy180]; with_reducible exact H2_) | (have H2_ := (Option.bind_some _ _).symm.trans H; with_reducible exact H2_) | with_reducible exact H | (rw [hy180]; exact H) | exact H
 have Ny180 := Aside0.mk hy180
 clear hy180
 by_cases c3 : y180.length = 8
 rotate_left
 ·rw [if_neg c3] at H
  exact absurd H (by simp)
 rw [if_pos c3] at H
 have c3b0 := eq_true c3
 have c3b1 : decide (y180.length = 8) = true := decide_eq_true c3
 clear c3
 by_cases c4 : 0 < (y180.length : Int)
 rotate_left
 ·rw [if_neg c4] at H
  exact absurd H (by simp)
 rw [if_pos c4] at H
 have c4b0 : decide (0 < (y180.length : Int)) = true := decide_eq_true c4
 have c4b1 : decide (0 < y180.length) = true := decide_eq_true (by omega)
 clear c4
 obtain ⟨y183, hy183⟩ : ∃ y_ : List Int, y_ = ([1779033703, 3144134277, 1013904242, 2773480762, 1359893119, 2600822924, 528734635, 1541459225]) := ⟨_, rfl⟩
 replace H : ((palaverref02_table.f).bind fun _ => ((some (List.replicate 64 0 : List Int)).bind fun y184 => (if y184.length = 64 then (if 0 < (y184.length : Int) then ((palaverref02_Padded.f k a0).bind fun t188 => (palaverref02_Sum.l0 k y183 ([1116352408, 1899447441, 3049323471, 3921009573, 961987163, 1508970993, 2453635748, 2870763221, 3624381080, 310598401, 607225278, 1426881987, 1925078388, 2162078206, 2614888103, 3248222580, 3835390401, 4022224774, 264347078, 604807628, 770255983, 1249150122, 1555081692, 1996064986, 2554220882, 2821834349, 2952996808, 3210313671, 3336571891, 3584528711, 113926993, 338241895, 666307205, 773529912, 1294757372, 1396182291, 1695183700, 1986661051, 2177026350, 2456956037, 2730485921, 2820302411, 3259730800, 3345764771, 3516065817, 3600352804, 4094571909, 275423344, 430227734, 506948616, 659060556, 883997877, 958139571, 1322822218, 1537002063, 1747873779, 1955562222, 2024104815, 2227730452, 2361852424, 2428436474, 2756734187, 3204031479, 3329325298]) t188 0)) else (none)) else (none)))) = some r := by first | (rw [hy183]; with_reducible exact H) | (have H2_ := (Option.bind_some _ _).symm.trans H; rw [hy183]; with_reducible exact H2_) | (have H2_ := (Option.bind_some _ _).symm.trans H; with_reducible exact H2_) | with_reducible exact H | (rw [hy183]; exact H) | exact H
 have Ny183 := Aside0.mk hy183
 clear hy183
 replace H := ob_ H
 obtain ⟨_, A60, H⟩ := H
 replace H : ((some (List.replicate 64 0 : List Int)).bind fun y184 => (if y184.length = 64 then (if 0 < (y184.length : Int) then ((palaverref02_Padded.f k a0).bind fun t188 => (palaverref02_Sum.l0 k y183 ([1116352408, 1899447441, 3049323471, 3921009573, 961987163, 1508970993, 2453635748, 2870763221, 3624381080, 310598401, 607225278, 1426881987, 1925078388, 2162078206, 2614888103, 3248222580, 3835390401, 4022224774, 264347078, 604807628, 770255983, 1249150122, 1555081692, 1996064986, 2554220882, 2821834349, 2952996808, 3210313671, 3336571891, 3584528711, 113926993, 338241895, 666307205, 773529912, 1294757372, 1396182291, 1695183700, 1986661051, 2177026350, 2456956037, 2730485921, 2820302411, 3259730800, 3345764771, 3516065817, 3600352804, 4094571909, 275423344, 430227734, 506948616, 659060556, 883997877, 958139571, 1322822218, 1537002063, 1747873779, 1955562222, 2024104815, 2227730452, 2361852424, 2428436474, 2756734187, 3204031479, 3329325298]) t188 0)) else (none)) else (none))) = some r := H
 have A6 := Aside0.mk A60
 clear A60
 obtain ⟨y184, hy184⟩ : ∃ y_ : List Int, y_ = (List.replicate 64 0) := ⟨_, rfl⟩
 replace H : (if y184.length = 64 then (if 0 < (y184.length : Int) then ((palaverref02_Padded.f k a0).bind fun t188 => (palaverref02_Sum.l0 k y183 ([1116352408, 1899447441, 3049323471, 3921009573, 961987163, 1508970993, 2453635748, 2870763221, 3624381080, 310598401, 607225278, 1426881987, 1925078388, 2162078206, 2614888103, 3248222580, 3835390401, 4022224774, 264347078, 604807628, 770255983, 1249150122, 1555081692, 1996064986, 2554220882, 2821834349, 2952996808, 3210313671, 3336571891, 3584528711, 113926993, 338241895, 666307205, 773529912, 1294757372, 1396182291, 1695183700, 1986661051, 2177026350, 2456956037, 2730485921, 2820302411, 3259730800, 3345764771, 3516065817, 3600352804, 4094571909, 275423344, 430227734, 506948616, 659060556, 883997877, 958139571, 1322822218, 1537002063, 1747873779, 1955562222, 2024104815, 2227730452, 2361852424, 2428436474, 2756734187, 3204031479, 3329325298]) t188 0)) else (none)) else (none)) = some r := by first | (rw [hy184]; with_reducible exact H) | (have H2_ := (Option.bind_some _ _).symm.trans H; rw [hy184]; with_reducible exact H2_) | (have H2_ := (Option.bind_some _ _).symm.trans H; with_reducible exact H2_) | with_reducible exact H | (rw [hy184]; exact H) | exact H
 have Ny184 := Aside0.mk hy184
 clear hy184
 by_cases c7 : y184.length = 64
 rotate_left
 ·rw [if_neg c7] at H
  exact absurd H (by simp)
 rw [if_pos c7] at H
 have c7b0 := eq_true c7
 have c7b1 : decide (y184.length = 64) = true := decide_eq_true c7
 clear c7
 by_cases c8 : 0 < (y184.length : Int)
 rotate_left
 ·rw [if_neg c8] at H
  exact absurd H (by simp)
 rw [if_pos c8] at H
 have c8b0 : decide (0 < (y184.length : Int)) = true := decide_eq_true c8
 have c8b1 : decide (0 < y184.length) = true := decide_eq_true (by omega)
 clear c8
 obtain ⟨y187, hy187⟩ : ∃ y_ : List Int, y_ = ([1116352408, 1899447441, 3049323471, 3921009573, 961987163, 1508970993, 2453635748, 2870763221, 3624381080, 310598401, 607225278, 1426881987, 1925078388, 2162078206, 2614888103, 3248222580, 3835390401, 4022224774, 264347078, 604807628, 770255983, 1249150122, 1555081692, 1996064986, 2554220882, 2821834349, 2952996808, 3210313671, 3336571891, 3584528711, 113926993, 338241895, 666307205, 773529912, 1294757372, 1396182291, 1695183700, 1986661051, 2177026350, 2456956037, 2730485921, 2820302411, 3259730800, 3345764771, 3516065817, 3600352804, 4094571909, 275423344, 430227734, 506948616, 659060556, 883997877, 958139571, 1322822218, 1537002063, 1747873779, 1955562222, 2024104815, 2227730452, 2361852424, 2428436474, 2756734187, 3204031479, 3329325298]) := ⟨_, rfl⟩
 replace H : ((palaverref02_Padded.f k a0).bind fun t188 => (palaverref02_Sum.l0 k y183 y187 t188 0)) = some r := by first | (rw [hy187]; with_reducible exact H) | (have H2_ := (Option.bind_some _ _).symm.trans H; rw [hy187]; with_reducible exact H2_) | (have H2_ := (Option.bind_some _ _).symm.trans H; with_reducible exact H2_) | with_reducible exact H | (rw [hy187]; exact H) | exact H
 have Ny187 := Aside0.mk hy187
 clear hy187
 replace H := ob_ H
 obtain ⟨t188, A100, H⟩ := H
 replace H : (palaverref02_Sum.l0 k y183 y187 t188 0) = some r := H
 have A10 := Aside0.mk A100
 clear A100
 have H' := Aside0.mk H
 clear H
 go_enter Tryd.func53, Tryd.ntmps53
 go_wp2_with (first | ((with_reducible refine gate_callee (f := 76) rfl ?_); refine goesL_ (some 30) rfl rfl Tryd.func76 (by kernel_rfl) rfl #[] rfl (by (try simp only [gm_]); first | done | rfl | (simp only [gl_]; rfl)) ?_; (with_reducible refine (palaverref02_Starts.calls   _ A2.out).mono ?_); rintro e w11 ⟨rfl, hb⟩; refine ⟨_, rfl, ?_⟩; have n0_ := Aside0.mk (below_step (by repeat (first | (with_reducible first | exact HB.out | apply lA_ | apply lN_ | apply lD_) | exact HB.out)) hb); clear HB; have HB := n0_; clear n0_; (try clear hb); (try clear hb2); (try clear hk); (try clear hi)) | ((with_reducible refine gate_dst (N := 3) rfl ?_); refine R_arr (Value.int .u32) (fun _ => rfl) _ 105 ?hg (N := 3) ?hd (List.replicate 8 0) ?hr (Below.refl _ _) (Nat.le_refl _) (by decide) ?_; (case hd => rfl); (case hg => rfl); (case hr => first | (go_simp; done) | (go_simp; rfl)); intro v181 w12 ho13 hb hg_ hnew_; clear hg_ hnew_; (first | rw [← Ny180.out] at ho13 | (simp only [Int.reduceToNat] at ho13; rw [← Ny180.out] at ho13)); have n0_ := Aside0.mk (Kd.R_lower ho13 (below_size (by repeat (first | (with_reducible first | exact HB.out | apply lA_ | apply lN_ | apply lD_) | exact HB.out)))); have n1_ := Aside0.mk (below_step (by repeat (first | (with_reducible first | exact HB.out | apply lA_ | apply lN_ | apply lD_) | exact HB.out)) hb); clear HB; have HO182 := n0_; have HB := n1_; clear n0_ n1_; clear hb ho13; have qa5 : ((0 : Int) < (8 : Int)) = True := eq_true (by have e_ : y180.length = 8 := od_ (by assumption); have h_ : (0 : Int) < ((y180.length : Int) : Int) := od_ (by assumption); omega); have p5 : 0 ≤ (0 : Int) := (by omega); have q5 : (0 : Int) < ((y180.length : Int) : Int) := od_ (by assumption); have qi5 : (0 < y180.length) = True := eq_true (by omega); obtain ⟨go5, co5, eo5, gb5, gl5, cl5, HG5⟩ := Kd.R_form HO182.out (by omega); (first | cases eo5 | (injection eo5 with ea_ en_ ec_; (first | subst ea_ | (injection ea_ with ea_; subst ea_)); subst ec_; clear en_)); have GB5 := Aside0.mk gb5; have GG5 := Aside0.mk HG5; clear gb5 gl5 HG5; obtain ⟨hx5_0, hf5_0⟩ := Kd.R_celln 0 HO182.out (0 : Int) p5 q5; (try rw [show ((0 : Int)).toNat = 0 from rfl] at hx5_0); (try simp only [Nat.reduceMul, Nat.zero_mul, Nat.zero_add, Nat.reduceAdd] at hx5_0); (try rw [show ((0 : Int)).toNat = 0 from rfl] at hf5_0); (try simp only [Nat.reduceMul, Nat.zero_mul, Nat.zero_add, Nat.reduceAdd] at hf5_0); replace p5 := eq_true p5; replace q5 := eq_true q5; have HP14 := R_whole (ys := [1779033703, 3144134277, 1013904242, 2773480762, 1359893119, 2600822924, 528734635, 1541459225]) HO182.out (by have e_ : y180.length = 8 := od_ (by assumption); have e2_ := (Kd.R_reads' HO182.out).1; first | (rw [e_]; rfl) | (simp only [List.length_cons, List.length_nil]; omega))) | ((with_reducible refine gate_store (t := 105) (p := 3) rfl ?_); refine store_event (t := 105) (p := 3) (v := ?vo_w15) (w1 := (w12.setCells go5 0 (encs (Value.int .u32) [1779033703, 3144134277, 1013904242, 2773480762, 1359893119, 2600822924, 528734635, 1541459225]))) ?hg ?ho ?hn ?hr ?_; (case ho => rfl); (case hg => rfl); (case hn => rfl); (case hr => exact whole_run (ys := [1779033703, 3144134277, 1013904242, 2773480762, 1359893119, 2600822924, 528734635, 1541459225]) rfl rfl rfl (by kernel_rfl) HO182.out (by have e_ : y180.length = 8 := od_ (by assumption); have e2_ := (Kd.R_reads' HO182.out).1; first | (rw [e_]; rfl) | (simp only [List.length_cons, List.length_nil]; omega))); intro w15 hw; have hg : w12.grownBy w15 (some go5) := (by rw [hw]; exact HP14.2); have hp_ : Kd.R (Kd.int .u32) 105 w15 w.heap.size (fun _ => True) (.slice (some ⟨go5, 0, none⟩) y180.length co5) y183 := (by rw [hw, Ny183.out]; exact HP14.1); clear HP14; have n0_ := Aside0.mk (hp_); have n1_ := Aside0.mk ((Below.grown HB.out hg (below_size HB.out) (fun k_ e_ => (Option.some.inj e_) ▸ GB5.out) : Below w.heap.size w w15)); clear HO182; clear HB; have HO182 := n0_; have HB := n1_; clear n0_ n1_; clear hg hw hp_) | ((with_reducible refine gate_callee (f := 77) rfl ?_); refine goesL_ (some 31) rfl rfl Tryd.func77 (by kernel_rfl) rfl #[] rfl (by (try simp only [gm_]); first | done | rfl | (simp only [gl_]; rfl)) ?_; (with_reducible refine (palaverref02_table.calls   _ A6.out).mono ?_); rintro e w16 ⟨rfl, hb⟩; refine ⟨_, rfl, ?_⟩; have n0_ := Aside0.mk (Kd.R_below (by (with_reducible repeat (first | apply Kd.R_alloc | apply Kd.R_drewN | apply Kd.R_drew)); exact HO182.out) hb); have n1_ := Aside0.mk (below_step (by repeat (first | (with_reducible first | exact HB.out | apply lA_ | apply lN_ | apply lD_) | exact HB.out)) hb); clear HO182; clear HB; have HO182 := n0_; have HB := n1_; clear n0_ n1_; (try clear hb); (try clear hb2); (try clear hk); (try clear hi)) | ((with_reducible refine gate_dst (N := 4) rfl ?_); refine R_arr (Value.int .u32) (fun _ => rfl) _ 113 ?hg (N := 4) ?hd (List.replicate 64 0) ?hr (Below.refl _ _) (Nat.le_refl _) (by decide) ?_; (case hd => rfl); (case hg => rfl); (case hr => first | (go_simp; done) | (go_simp; rfl)); intro v185 w17 ho18 hb hg_ hnew_; clear hg_ hnew_; (first | rw [← Ny184.out] at ho18 | (simp only [Int.reduceToNat] at ho18; rw [← Ny184.out] at ho18)); have n0_ := Aside0.mk (Kd.R_below (by (with_reducible repeat (first | apply Kd.R_alloc | apply Kd.R_drewN | apply Kd.R_drew)); exact HO182.out) hb); have n1_ := Aside0.mk (Kd.R_lower ho18 (below_size (by repeat (first | (with_reducible first | exact HB.out | apply lA_ | apply lN_ | apply lD_) | exact HB.out)))); have n2_ := Aside0.mk (below_step (by repeat (first | (with_reducible first | exact HB.out | apply lA_ | apply lN_ | apply lD_) | exact HB.out)) hb); clear HO182; clear HB; have HO182 := n0_; have HO186 := n1_; have HB := n2_; clear n0_ n1_ n2_; clear hb ho18; have qa9 : ((0 : Int) < (64 : Int)) = True := eq_true (by have e_ : y184.length = 64 := od_ (by assumption); have h_ : (0 : Int) < ((y184.length : Int) : Int) := od_ (by assumption); omega); have p9 : 0 ≤ (0 : Int) := (by omega); have q9 : (0 : Int) < ((y184.length : Int) : Int) := od_ (by assumption); have qi9 : (0 < y184.length) = True := eq_true (by omega); obtain ⟨go9, co9, eo9, gb9, gl9, cl9, HG9⟩ := Kd.R_form HO186.out (by omega); (first | cases eo9 | (injection eo9 with ea_ en_ ec_; (first | subst ea_ | (injection ea_ with ea_; subst ea_)); subst ec_; clear en_)); have GB9 := Aside0.mk gb9; have GG9 := Aside0.mk HG9; clear gb9 gl9 HG9; obtain ⟨hx9_0, hf9_0⟩ := Kd.R_celln 0 HO186.out (0 : Int) p9 q9; (try rw [show ((0 : Int)).toNat = 0 from rfl] at hx9_0); (try simp only [Nat.reduceMul, Nat.zero_mul, Nat.zero_add, Nat.reduceAdd] at hx9_0); (try rw [show ((0 : Int)).toNat = 0 from rfl] at hf9_0); (try simp only [Nat.reduceMul, Nat.zero_mul, Nat.zero_add, Nat.reduceAdd] at hf9_0); replace p9 := eq_true p9; replace q9 := eq_true q9; have HP19 := R_whole (ys := [1116352408, 1899447441, 3049323471, 3921009573, 961987163, 1508970993, 2453635748, 2870763221, 3624381080, 310598401, 607225278, 1426881987, 1925078388, 2162078206, 2614888103, 3248222580, 3835390401, 4022224774, 264347078, 604807628, 770255983, 1249150122, 1555081692, 1996064986, 2554220882, 2821834349, 2952996808, 3210313671, 3336571891, 3584528711, 113926993, 338241895, 666307205, 773529912, 1294757372, 1396182291, 1695183700, 1986661051, 2177026350, 2456956037, 2730485921, 2820302411, 3259730800, 3345764771, 3516065817, 3600352804, 4094571909, 275423344, 430227734, 506948616, 659060556, 883997877, 958139571, 1322822218, 1537002063, 1747873779, 1955562222, 2024104815, 2227730452, 2361852424, 2428436474, 2756734187, 3204031479, 3329325298]) HO186.out (by have e_ : y184.length = 64 := od_ (by assumption); have e2_ := (Kd.R_reads' HO186.out).1; first | (rw [e_]; rfl) | (simp only [List.length_cons, List.length_nil]; omega))) | ((with_reducible refine gate_store (t := 113) (p := 4) rfl ?_); refine store_event (t := 113) (p := 4) (v := ?vo_w20) (w1 := (w17.setCells go9 0 (encs (Value.int .u32) [1116352408, 1899447441, 3049323471, 3921009573, 961987163, 1508970993, 2453635748, 2870763221, 3624381080, 310598401, 607225278, 1426881987, 1925078388, 2162078206, 2614888103, 3248222580, 3835390401, 4022224774, 264347078, 604807628, 770255983, 1249150122, 1555081692, 1996064986, 2554220882, 2821834349, 2952996808, 3210313671, 3336571891, 3584528711, 113926993, 338241895, 666307205, 773529912, 1294757372, 1396182291, 1695183700, 1986661051, 2177026350, 2456956037, 2730485921, 2820302411, 3259730800, 3345764771, 3516065817, 3600352804, 4094571909, 275423344, 430227734, 506948616, 659060556, 883997877, 958139571, 1322822218, 1537002063, 1747873779, 1955562222, 2024104815, 2227730452, 2361852424, 2428436474, 2756734187, 3204031479, 3329325298]))) ?hg ?ho ?hn ?hr ?_; (case ho => rfl); (case hg => rfl); (case hn => rfl); (case hr => exact whole_run (ys := [1116352408, 1899447441, 3049323471, 3921009573, 961987163, 1508970993, 2453635748, 2870763221, 3624381080, 310598401, 607225278, 1426881987, 1925078388, 2162078206, 2614888103, 3248222580, 3835390401, 4022224774, 264347078, 604807628, 770255983, 1249150122, 1555081692, 1996064986, 2554220882, 2821834349, 2952996808, 3210313671, 3336571891, 3584528711, 113926993, 338241895, 666307205, 773529912, 1294757372, 1396182291, 1695183700, 1986661051, 2177026350, 2456956037, 2730485921, 2820302411, 3259730800, 3345764771, 3516065817, 3600352804, 4094571909, 275423344, 430227734, 506948616, 659060556, 883997877, 958139571, 1322822218, 1537002063, 1747873779, 1955562222, 2024104815, 2227730452, 2361852424, 2428436474, 2756734187, 3204031479, 3329325298]) rfl rfl rfl (by kernel_rfl) HO186.out (by have e_ : y184.length = 64 := od_ (by assumption); have e2_ := (Kd.R_reads' HO186.out).1; first | (rw [e_]; rfl) | (simp only [List.length_cons, List.length_nil]; omega))); intro w20 hw; have hg : w17.grownBy w20 (some go9) := (by rw [hw]; exact HP19.2); have hp_ : Kd.R (Kd.int .u32) 113 w20 w.heap.size (fun _ => True) (.slice (some ⟨go9, 0, none⟩) y184.length co9) y187 := (by rw [hw, Ny187.out]; exact HP19.1); clear HP19; have n0_ := Aside0.mk (Kd.R_over' (v := (.slice (some ⟨go9, 0, none⟩) y184.length co9)) (by (with_reducible repeat (first | apply Kd.R_alloc | apply Kd.R_drewN | apply Kd.R_drew)); exact HO182.out) (Kd.R_typed HO186.out) (by decide) hg); have n1_ := Aside0.mk (hp_); have n2_ := Aside0.mk ((Below.grown HB.out hg (below_size HB.out) (fun k_ e_ => (Option.some.inj e_) ▸ GB9.out) : Below w.heap.size w w20)); clear HO182; clear HO186; clear HB; have HO182 := n0_; have HO186 := n1_; have HB := n2_; clear n0_ n1_ n2_; clear hg hw hp_) | ((with_reducible refine gate_callee (f := 78) rfl ?_); refine goesL_ (some 33) rfl rfl Tryd.func78 (by kernel_rfl) rfl #[.string a0] rfl (by (try simp only [gm_]); first | done | rfl | (simp only [gl_]; rfl)) ?_; (with_reducible refine (palaverref02_Padded.calls k a0 t188 _ A10.out).mono ?_); rintro e w21 ⟨rfl, hb⟩; refine ⟨_, rfl, ?_⟩; have n0_ := Aside0.mk (Kd.R_below (by (with_reducible repeat (first | apply Kd.R_alloc | apply Kd.R_drewN | apply Kd.R_drew)); exact HO182.out) hb); have n1_ := Aside0.mk (Kd.R_below (by (with_reducible repeat (first | apply Kd.R_alloc | apply Kd.R_drewN | apply Kd.R_drew)); exact HO186.out) hb); have n2_ := Aside0.mk (below_step (by repeat (first | (with_reducible first | exact HB.out | apply lA_ | apply lN_ | apply lD_) | exact HB.out)) hb); clear HO182; clear HO186; clear HB; have HO182 := n0_; have HO186 := n1_; have HB := n2_; clear n0_ n1_ n2_; (try clear hb); (try clear hb2); (try clear hk); (try clear hi)))
 go_loopg [6] k (fun kq v6 w' => ∃ (x3_1 : List Int) (x4_1 : List Int) (x6_1 : Int), v6 = .int .i64 x6_1 ∧ Aside0 (palaverref02_Sum.l0 kq x3_1 x4_1 t188 x6_1 = some r) ∧ Aside0 (kq ≤ k) ∧ Aside0 (Kd.R (Kd.int .u32) 105 w' w.heap.size (fun _ => True) (.slice (some ⟨go5, 0, none⟩) y180.length co5) x3_1) ∧ Aside0 (Kd.R (Kd.int .u32) 113 w' w.heap.size (fun _ => True) (.slice (some ⟨go9, 0, none⟩) y184.length co9) x4_1) ∧ Aside0 (Below w.heap.size w w'))
 case atStart => exact ⟨(y183), (y187), (0), (by first | rfl | (simp; done) | (simp [*]; done) | (refine congrArg (Value.int _) ?_; first | omega | (unfold wrap64; omega))), H', ⟨Nat.le_refl _⟩, ⟨by (with_reducible repeat (first | apply Kd.R_alloc | apply Kd.R_drewN | apply Kd.R_drew)); exact HO182.out⟩, ⟨by (with_reducible repeat (first | apply Kd.R_alloc | apply Kd.R_drewN | apply Kd.R_drew)); exact HO186.out⟩, ⟨by repeat (first | (with_reducible first | exact HB.out | apply lA_ | apply lN_ | apply lD_) | exact HB.out)⟩⟩
 case round =>
  clear H'
  (try clear p2); (try clear c3); (try clear c3b0); (try clear c3b1); (try clear c4); (try clear c4b0); (try clear c4b1); (try clear c5); (try clear p5); (try clear q5); (try clear hx5); (try clear qi5); (try clear hf5); (try clear p6); (try clear c7); (try clear c7b0); (try clear c7b1); (try clear c8); (try clear c8b0); (try clear c8b1); (try clear p9); (try clear q9); (try clear hx9); (try clear qi9); (try clear hf9); (try clear hx5_0); (try clear hx9_0); (try clear p5); (try clear p9); (try clear q5); (try clear q9)
  obtain ⟨x3_1, x4_1, x6_1, rfl, HA, HK1, HO_3, HO_4, HB⟩ := hrel
  have hl3_1 := (Kd.R_reads' HO_3.out).1
  rw [hl3_1] at HO_3
  (try simp only [hl3_1])
  (try simp only [hl3_1] at HO_4)
  have hl4_1 := (Kd.R_reads' HO_4.out).1
  rw [hl4_1] at HO_4
  (try simp only [hl4_1])
  (try simp only [hl4_1] at HO_3)
  cases gk with
  | zero => exact absurd HA.out (by simp [palaverref02_Sum.l0])
  | succ k1 =>
   have H := HA.out
   clear HA
   simp only [palaverref02_Sum.l0] at H
   by_cases c22 : x6_1 < (t188.size : Int)
   ·refine Nonempty.elim ?gc22p id
    letI i_ : type_of% ?gc22p := ⟨by
    rw [if_pos c22] at H
    have c22b0 : decide (x6_1 < (t188.size : Int)) = true := decide_eq_true c22
    (try (have c22b7 := c22b0; simp only [hl3_1, hl4_1] at c22b7))
    clear c22
    obtain ⟨y189, hy189⟩ : ∃ y_ : List Int, y_ = (List.replicate 64 0) := ⟨_, rfl⟩
    replace H : (palaverref02_Sum.l1 k1 x3_1 x4_1 t188 x6_1 y189 0) = some r := by first | (rw [hy189]; with_reducible exact H) | (have H2_ := (Option.bind_some _ _).symm.trans H; rw [hy189]; with_reducible exact H2_) | (have H2_ := (Option.bind_some _ _).symm.trans H; with_reducible exact H2_) | with_reducible exact H | (rw [hy189]; exact H) | exact H
    have Ny189 := Aside0.mk hy189
    clear hy189
    have H' := Aside0.mk H
    clear H
    go_wp2_with (first | ((with_reducible refine gate_dst (N := 7) rfl ?_); refine R_arr (Value.int .u32) (fun _ => rfl) _ 113 ?hg (N := 7) ?hd (List.replicate 64 0) ?hr (Below.refl _ _) (Nat.le_refl _) (by decide) ?_; (case hd => rfl); (case hg => rfl); (case hr => first | (go_simp; done) | (go_simp; rfl)); intro v190 w23 ho24 hb hg_ hnew_; clear hg_ hnew_; (first | rw [← Ny189.out] at ho24 | (simp only [Int.reduceToNat] at ho24; rw [← Ny189.out] at ho24)); have n0_ := Aside0.mk (Kd.R_below (by (with_reducible repeat (first | apply Kd.R_alloc | apply Kd.R_drewN | apply Kd.R_drew)); exact HO_3.out) hb); have n1_ := Aside0.mk (Kd.R_elder' (by (with_reducible repeat (first | apply Kd.R_alloc | apply Kd.R_drewN | apply Kd.R_drew)); exact HO_4.out) (Kd.R_base ho24) hb); have n2_ := Aside0.mk (Kd.R_lower (Kd.R_new' ho24 (Kd.R_lt (by (with_reducible repeat (first | apply Kd.R_alloc | apply Kd.R_drewN | apply Kd.R_drew)); exact HO_4.out))) (below_size (by repeat (first | (with_reducible first | exact HB.out | apply lA_ | apply lN_ | apply lD_) | exact HB.out)))); have n3_ := Aside0.mk (below_step (by repeat (first | (with_reducible first | exact HB.out | apply lA_ | apply lN_ | apply lD_) | exact HB.out)) hb); clear HO_3; clear HO_4; clear HB; have HO_3 := n0_; have HO_4 := n1_; have HO191 := n2_; have HB := n3_; clear n0_ n1_ n2_ n3_; clear hb ho24))
    go_loopg [8] k1 (fun kq v8 w' => ∃ (x7_2 : List Int) (x8_2 : Int), v8 = .int .i64 x8_2 ∧ Aside0 (palaverref02_Sum.l1 kq x3_1 x4_1 t188 x6_1 x7_2 x8_2 = some r) ∧ Aside0 (kq ≤ k1) ∧ Aside0 (Kd.R (Kd.int .u32) 105 w' w.heap.size (fun _ => True) (.slice (some ⟨go5, 0, none⟩) x3_1.length co5) x3_1) ∧ Aside0 (Kd.R (Kd.int .u32) 113 w' w.heap.size (fun k_ => some k_ ≠ (v190 : Value).ownBlock) (.slice (some ⟨go9, 0, none⟩) x4_1.length co9) x4_1) ∧ Aside0 (Kd.R (Kd.int .u32) 113 w' w.heap.size (fun k_ => some k_ ≠ ((.slice (some ⟨go9, 0, none⟩) x4_1.length co9) : Value).ownBlock) v190 x7_2) ∧ Aside0 (Below w.heap.size w w'))
    case atStart => exact ⟨(y189), (0), (by first | rfl | (simp; done) | (simp [*]; done) | (refine congrArg (Value.int _) ?_; first | omega | (unfold wrap64; omega))), H', ⟨Nat.le_refl _⟩, ⟨by (try simp only [hl3_1]); (try simp only [hl4_1]); (with_reducible repeat (first | apply Kd.R_alloc | apply Kd.R_drewN | apply Kd.R_drew)); exact HO_3.out⟩, ⟨by (try simp only [hl3_1]); (try simp only [hl4_1]); (with_reducible repeat (first | apply Kd.R_alloc | apply Kd.R_drewN | apply Kd.R_drew)); exact Kd.R_mono HO_4.out (fun _ hk => hk.2)⟩, ⟨by (try simp only [hl3_1]); (try simp only [hl4_1]); (with_reducible repeat (first | apply Kd.R_alloc | apply Kd.R_drewN | apply Kd.R_drew)); exact Kd.R_mono HO191.out (fun _ hk => hk.2)⟩, ⟨by repeat (first | (with_reducible first | exact HB.out | apply lA_ | apply lN_ | apply lD_) | exact HB.out)⟩⟩
    case round =>
     clear H'
     (try clear c2); (try clear p2); (try clear c3); (try clear c3b0); (try clear c3b1); (try clear c4); (try clear c4b0); (try clear c4b1); (try clear c5); (try clear p5); (try clear q5); (try clear hx5); (try clear qi5); (try clear hf5); (try clear p6); (try clear c7); (try clear c7b0); (try clear c7b1); (try clear c8); (try clear c8b0); (try clear c8b1); (try clear p9); (try clear q9); (try clear hx9); (try clear qi9); (try clear hf9); (try clear c22); (try clear c22b0); (try clear c22b7); (try clear hx5_0); (try clear hx9_0); (try clear p2); (try clear p5); (try clear p6); (try clear p9); (try clear q5); (try clear q9)
     obtain ⟨x7_2, x8_2, rfl, HA, HK2, HO_3, HO_4, HO_7, HB⟩ := hrel
     cases gk with
     | zero => exact absurd HA.out (by simp [palaverref02_Sum.l1])
     | succ k2 =>
      have H := HA.out
      clear HA
      simp only [palaverref02_Sum.l1] at H
      by_cases c25 : x8_2 < 64
      ·refine Nonempty.elim ?gc25p id
       letI i_ : type_of% ?gc25p := ⟨by
       rw [if_pos c25] at H
       have c25b0 : decide (x8_2 < 64) = true := decide_eq_true c25
       (try (have c25b7 := c25b0; simp only [hl3_1, hl4_1] at c25b7))
       clear c25
       by_cases c26 : x8_2 < 16
       ·refine Nonempty.elim ?gc26p id
        letI i_ : type_of% ?gc26p := ⟨by
        rw [if_pos c26] at H
        have c26b0 : decide (x8_2 < 16) = true := decide_eq_true c26
        (try (have c26b7 := c26b0; simp only [hl3_1, hl4_1] at c26b7))
        clear c26
        obtain ⟨ji27, hji27⟩ : ∃ j_ : Int, (wrap64 (x6_1 + (wrap64 (4 * x8_2)))) = j_ := ⟨_, rfl⟩
        replace H : (if 0 ≤ (ji27) then (if (ji27) < (t188.size : Int) then (if 0 ≤ (wrap64 ((ji27) + 1)) then (if (wrap64 ((ji27) + 1)) < (t188.size : Int) then (if 0 ≤ (wrap64 ((ji27) + 2)) then (if (wrap64 ((ji27) + 2)) < (t188.size : Int) then (if 0 ≤ (wrap64 ((ji27) + 3)) then (if (wrap64 ((ji27) + 3)) < (t188.size : Int) then (if x7_2.length = 64 then (if 0 ≤ x8_2 then (if x8_2 < (x7_2.length : Int) then (palaverref02_Sum.l1 k2 x3_1 x4_1 t188 x6_1 (x7_2.set (x8_2 : Int).toNat (((((((bt t188 (ji27)) % 4294967296) * 16777216) + (((bt t188 (wrap64 ((ji27) + 1))) % 4294967296) * 65536)) + (((bt t188 (wrap64 ((ji27) + 2))) % 4294967296) * 256)) + (bt t188 (wrap64 ((ji27) + 3)))) % 4294967296)) (wrap64 (x8_2 + 1))) else (none)) else (none)) else (none)) else (none)) else (none)) else (none)) else (none)) else (none)) else (none)) else (none)) else (none)) = some r := by first | (rw [hji27] at H; exact H) | (simp only [hji27] at H ⊢; exact H)
        have hji27w : (IntKind.i64.wrap (x6_1 + (wrap64 (4 * x8_2)))) = ji27 := (i64_w _).trans hji27
        by_cases c28 : 0 ≤ (ji27)
        ·rw [if_pos c28] at H
         have c28b0 : decide (0 ≤ (ji27)) = true := decide_eq_true c28
         (try (have c28b7 := c28b0; simp only [hl3_1, hl4_1] at c28b7))
         clear c28
         by_cases c29 : (ji27) < (t188.size : Int)
         rotate_left
         ·rw [if_neg c29] at H
          exact absurd H (by simp)
         rw [if_pos c29] at H
         have c29b0 : decide ((ji27) < (t188.size : Int)) = true := decide_eq_true c29
         (try (have c29b7 := c29b0; simp only [hl3_1, hl4_1] at c29b7))
         clear c29
         obtain ⟨ji31, hji31⟩ : ∃ j_ : Int, (wrap64 ((ji27) + 1)) = j_ := ⟨_, rfl⟩
         replace H : (if 0 ≤ (ji31) then (if (ji31) < (t188.size : Int) then (if 0 ≤ (wrap64 ((ji27) + 2)) then (if (wrap64 ((ji27) + 2)) < (t188.size : Int) then (if 0 ≤ (wrap64 ((ji27) + 3)) then (if (wrap64 ((ji27) + 3)) < (t188.size : Int) then (if x7_2.length = 64 then (if 0 ≤ x8_2 then (if x8_2 < (x7_2.length : Int) then (palaverref02_Sum.l1 k2 x3_1 x4_1 t188 x6_1 (x7_2.set (x8_2 : Int).toNat (((((((bt t188 (ji27)) % 4294967296) * 16777216) + (((bt t188 (ji31)) % 4294967296) * 65536)) + (((bt t188 (wrap64 ((ji27) + 2))) % 4294967296) * 256)) + (bt t188 (wrap64 ((ji27) + 3)))) % 4294967296)) (wrap64 (x8_2 + 1))) else (none)) else (none)) else (none)) else (none)) else (none)) else (none)) else (none)) else (none)) else (none)) = some r := by first | (rw [hji31] at H; exact H) | (simp only [hji31] at H ⊢; exact H)
         have hji31w : (IntKind.i64.wrap ((ji27) + 1)) = ji31 := (i64_w _).trans hji31
         by_cases c32 : 0 ≤ (ji31)
         rotate_left
         ·rw [if_neg c32] at H
          exact absurd H (by simp)
         rw [if_pos c32] at H
         have c32b0 : decide (0 ≤ (ji31)) = true := decide_eq_true c32
         (try (have c32b7 := c32b0; simp only [hl3_1, hl4_1] at c32b7))
         clear c32
         by_cases c33 : (ji31) < (t188.size : Int)
         rotate_left
         ·rw [if_neg c33] at H
          exact absurd H (by simp)
         rw [if_pos c33] at H
         have c33b0 : decide ((ji31) < (t188.size : Int)) = true := decide_eq_true c33
         (try (have c33b7 := c33b0; simp only [hl3_1, hl4_1] at c33b7))
         clear c33
         obtain ⟨ji35, hji35⟩ : ∃ j_ : Int, (wrap64 ((ji27) + 2)) = j_ := ⟨_, rfl⟩
         replace H : (if 0 ≤ (ji35) then (if (ji35) < (t188.size : Int) then (if 0 ≤ (wrap64 ((ji27) + 3)) then (if (wrap64 ((ji27) + 3)) < (t188.size : Int) then (if x7_2.length = 64 then (if 0 ≤ x8_2 then (if x8_2 < (x7_2.length : Int) then (palaverref02_Sum.l1 k2 x3_1 x4_1 t188 x6_1 (x7_2.set (x8_2 : Int).toNat (((((((bt t188 (ji27)) % 4294967296) * 16777216) + (((bt t188 (ji31)) % 4294967296) * 65536)) + (((bt t188 (ji35)) % 4294967296) * 256)) + (bt t188 (wrap64 ((ji27) + 3)))) % 4294967296)) (wrap64 (x8_2 + 1))) else (none)) else (none)) else (none)) else (none)) else (none)) else (none)) else (none)) = some r := by first | (rw [hji35] at H; exact H) | (simp only [hji35] at H ⊢; exact H)
         have hji35w : (IntKind.i64.wrap ((ji27) + 2)) = ji35 := (i64_w _).trans hji35
         by_cases c36 : 0 ≤ (ji35)
         rotate_left
         ·rw [if_neg c36] at H
          exact absurd H (by simp)
         rw [if_pos c36] at H
         have c36b0 : decide (0 ≤ (ji35)) = true := decide_eq_true c36
         (try (have c36b7 := c36b0; simp only [hl3_1, hl4_1] at c36b7))
         clear c36
         by_cases c37 : (ji35) < (t188.size : Int)
         rotate_left
         ·rw [if_neg c37] at H
          exact absurd H (by simp)
         rw [if_pos c37] at H
         have c37b0 : decide ((ji35) < (t188.size : Int)) = true := decide_eq_true c37
         (try (have c37b7 := c37b0; simp only [hl3_1, hl4_1] at c37b7))
         clear c37
         obtain ⟨ji39, hji39⟩ : ∃ j_ : Int, (wrap64 ((ji27) + 3)) = j_ := ⟨_, rfl⟩
         replace H : (if 0 ≤ (ji39) then (if (ji39) < (t188.size : Int) then (if x7_2.length = 64 then (if 0 ≤ x8_2 then (if x8_2 < (x7_2.length : Int) then (palaverref02_Sum.l1 k2 x3_1 x4_1 t188 x6_1 (x7_2.set (x8_2 : Int).toNat (((((((bt t188 (ji27)) % 4294967296) * 16777216) + (((bt t188 (ji31)) % 4294967296) * 65536)) + (((bt t188 (ji35)) % 4294967296) * 256)) + (bt t188 (ji39))) % 4294967296)) (wrap64 (x8_2 + 1))) else (none)) else (none)) else (none)) else (none)) else (none)) = some r := by first | (rw [hji39] at H; exact H) | (simp only [hji39] at H ⊢; exact H)
         have hji39w : (IntKind.i64.wrap ((ji27) + 3)) = ji39 := (i64_w _).trans hji39
         by_cases c40 : 0 ≤ (ji39)
         rotate_left
         ·rw [if_neg c40] at H
          exact absurd H (by simp)
         rw [if_pos c40] at H
         have c40b0 : decide (0 ≤ (ji39)) = true := decide_eq_true c40
         (try (have c40b7 := c40b0; simp only [hl3_1, hl4_1] at c40b7))
         clear c40
         by_cases c41 : (ji39) < (t188.size : Int)
         rotate_left
         ·rw [if_neg c41] at H
          exact absurd H (by simp)
         rw [if_pos c41] at H
         have c41b0 : decide ((ji39) < (t188.size : Int)) = true := decide_eq_true c41
         (try (have c41b7 := c41b0; simp only [hl3_1, hl4_1] at c41b7))
         clear c41
         by_cases c43 : x7_2.length = 64
         rotate_left
         ·rw [if_neg c43] at H
          exact absurd H (by simp)
         rw [if_pos c43] at H
         have c43b0 := eq_true c43
         have c43b1 : decide (x7_2.length = 64) = true := decide_eq_true c43
         clear c43
         by_cases c44 : 0 ≤ x8_2
         rotate_left
         ·rw [if_neg c44] at H
          exact absurd H (by simp)
         rw [if_pos c44] at H
         have c44b0 : decide (0 ≤ x8_2) = true := decide_eq_true c44
         (try (have c44b7 := c44b0; simp only [hl3_1, hl4_1] at c44b7))
         clear c44
         by_cases c45 : x8_2 < (x7_2.length : Int)
         rotate_left
         ·rw [if_neg c45] at H
          exact absurd H (by simp)
         rw [if_pos c45] at H
         have c45b0 : decide (x8_2 < (x7_2.length : Int)) = true := decide_eq_true c45
         (try (have c45b7 := c45b0; simp only [hl3_1, hl4_1] at c45b7))
         clear c45
         obtain ⟨y192, hy192⟩ : ∃ y_ : List Int, y_ = (x7_2.set (x8_2 : Int).toNat (((((((bt t188 (ji27)) % 4294967296) * 16777216) + (((bt t188 (ji31)) % 4294967296) * 65536)) + (((bt t188 (ji35)) % 4294967296) * 256)) + (bt t188 (ji39))) % 4294967296)) := ⟨_, rfl⟩
         replace H : (palaverref02_Sum.l1 k2 x3_1 x4_1 t188 x6_1 y192 (wrap64 (x8_2 + 1))) = some r := by first | (rw [hy192]; with_reducible exact H) | (have H2_ := (Option.bind_some _ _).symm.trans H; rw [hy192]; with_reducible exact H2_) | (have H2_ := (Option.bind_some _ _).symm.trans H; with_reducible exact H2_) | with_reducible exact H | (rw [hy192]; exact H) | exact H
         have Ny192 := Aside0.mk hy192
         clear hy192
         have H' := Aside0.mk H
         clear H
         try go_wp2
         have n0_ := Aside0.mk (Kd.R_drew HO_3.out)
         have n1_ := Aside0.mk (Kd.R_drew HO_4.out)
         have n2_ := Aside0.mk (Kd.R_drew HO_7.out)
         have n3_ := Aside0.mk (below_drew1 HB.out)
         clear HO_3
         clear HO_4
         clear HO_7
         clear HB
         have HO_3 := n0_
         have HO_4 := n1_
         have HO_7 := n2_
         have HB := n3_
         clear n0_ n1_ n2_ n3_
         have p30 : 0 ≤ ((ji27) : Int) := od_ (by assumption)
         have q30 : (ji27) < (t188.size : Int) := od_ (by assumption)
         have hx30 := bt_at t188 (ji27)
         replace p30 := eq_true p30
         replace q30 := eq_true q30
         have p34 : 0 ≤ ((ji31) : Int) := od_ (by assumption)
         have q34 : (ji31) < (t188.size : Int) := od_ (by assumption)
         have hx34 := bt_at t188 (ji31)
         replace p34 := eq_true p34
         replace q34 := eq_true q34
         have p38 : 0 ≤ ((ji35) : Int) := od_ (by assumption)
         have q38 : (ji35) < (t188.size : Int) := od_ (by assumption)
         have hx38 := bt_at t188 (ji35)
         replace p38 := eq_true p38
         replace q38 := eq_true q38
         have p42 : 0 ≤ ((ji39) : Int) := od_ (by assumption)
         have q42 : (ji39) < (t188.size : Int) := od_ (by assumption)
         have hx42 := bt_at t188 (ji39)
         replace p42 := eq_true p42
         replace q42 := eq_true q42
         have qa46 : ((x8_2 : Int) < (64 : Int)) = True := eq_true (by have e_ : x7_2.length = 64 := od_ (by assumption); have h_ : (x8_2 : Int) < ((x7_2.length : Int) : Int) := od_ (by assumption); omega)
         have p46 : 0 ≤ (x8_2 : Int) := od_ (by assumption)
         have q46 : (x8_2 : Int) < ((x7_2.length : Int) : Int) := od_ (by assumption)
         obtain ⟨go46, co46, eo46, gb46, gl46, cl46, HG46⟩ := Kd.R_form HO_7.out (by omega)
         (first | cases eo46 | (injection eo46 with ea_ en_ ec_; (first | subst ea_ | (injection ea_ with ea_; subst ea_)); subst ec_; clear en_))
         have GB46 := Aside0.mk gb46
         have GG46 := Aside0.mk HG46
         clear gb46 gl46 HG46
         obtain ⟨hx46_0, hf46_0⟩ := Kd.R_celln 0 HO_7.out (x8_2 : Int) p46 q46
         replace p46 := eq_true p46
         replace q46 := eq_true q46
         have HP48 := Kd.R_putn HO_7.out (x8_2 : Int) (((((((bt t188 (ji27)) % 4294967296) * 16777216) + (((bt t188 (ji31)) % 4294967296) * 65536)) + (((bt t188 (ji35)) % 4294967296) * 256)) + (bt t188 (ji39))) % 4294967296)
         rw [← Ny192.out] at HP48
         have HQ48 := Aside0.mk HP48
         clear HP48
         refine start_ (n := 40) (S := fun w' => True) (ds := [39]) #[false, false, false, false, false, false, false, false, false, false, false, false, false, false, false, false, false, false, false, false, false, false, false, false, false, false, false, false, false, false, false, false, false, false, false, false, false, false, false, false] (by kernel_rfl) rfl rfl trivial (fun hHeld => ?_); refine with_tabW palaverref02_Sum.tab12 palaverref02_Sum.bits12 (fun HT_ HW_ => ?_)
         generalize wr.drew = w47 at HO_3 HO_4 HO_7 HB GG46 HQ48 hf46_0 hx46_0 hHeld ⊢
         refine runs_ [(0, some 46), (1, some 47), (2, some 48), (3, some 49), (4, some 50), (5, some 51), (9, some 55), (10, some 56), (11, some 57), (12, some 58), (13, some 59), (14, some 60), (19, some 65), (20, some 66), (21, some 67), (22, some 68), (23, some 69), (24, some 70), (29, some 75), (30, some 76), (31, some 77), (32, some 78), (33, some 79), (34, some 80)] ?_
         iterate 24 (refine pureL_ (v := ?_) (a' := ?_) rfl rfl (any_of HT_.out (by kernel_rfl)) (Or.inl ⟨by rfl, ?_⟩) ?_ ?_ (fun _ _ _ h => h); rotate_left; (intro w'; go_simp; with_reducible rfl); rotate_left; (simp only [pr_]; rfl))
         refine runsE_ ?_
         refine take_ (i := 6) (N := some 52) (v := ?_) (a' := ?_) #[true, true, true, true, true, true, true, false, false, true, true, true, true, true, true, false, false, false, false, true, true, true, true, true, true, false, false, false, false, true, true, true, true, true, true, false, false, false, false, false] rfl rfl (take_ofW HT_.out HW_.out (by kernel_rfl)) (fun _ _ _ h => h) (Or.inl ⟨by rfl, ?_⟩) hHeld ?_ ?_
         rotate_left
         ·intro w' _
          go_simp
          with_reducible rfl
         rotate_left
         ·simp only [pr_]
          rfl
         refine runs_ [(7, some 53), (8, some 54)] ?_
         iterate 2 (refine pureL_ (v := ?_) (a' := ?_) rfl rfl (any_of HT_.out (by kernel_rfl)) (Or.inl ⟨by rfl, ?_⟩) ?_ ?_ (fun _ _ _ h => h); rotate_left; (intro w'; go_simp; with_reducible rfl); rotate_left; (simp only [pr_]; rfl))
         refine runsE_ ?_
         refine take_ (i := 15) (N := some 61) (v := ?_) (a' := ?_) #[true, true, true, true, true, true, true, true, true, true, true, true, true, true, true, true, false, false, false, true, true, true, true, true, true, false, false, false, false, true, true, true, true, true, true, false, false, false, false, false] rfl rfl (take_ofW HT_.out HW_.out (by kernel_rfl)) (fun _ _ _ h => h) (Or.inl ⟨by rfl, ?_⟩) hHeld ?_ ?_
         rotate_left
         ·intro w' _
          go_simp
          with_reducible rfl
         rotate_left
         ·simp only [pr_]
          rfl
         refine runs_ [(16, some 62), (17, some 63), (18, some 64)] ?_
         iterate 3 (refine pureL_ (v := ?_) (a' := ?_) rfl rfl (any_of HT_.out (by kernel_rfl)) (Or.inl ⟨by rfl, ?_⟩) ?_ ?_ (fun _ _ _ h => h); rotate_left; (intro w'; go_simp; with_reducible rfl); rotate_left; (simp only [pr_]; rfl))
         refine runsE_ ?_
         refine take_ (i := 25) (N := some 71) (v := ?_) (a' := ?_) #[true, true, true, true, true, true, true, true, true, true, true, true, true, true, true, true, true, true, true, true, true, true, true, true, true, true, false, false, false, true, true, true, true, true, true, false, false, false, false, false] rfl rfl (take_ofW HT_.out HW_.out (by kernel_rfl)) (fun _ _ _ h => h) (Or.inl ⟨by rfl, ?_⟩) hHeld ?_ ?_
         rotate_left
         ·intro w' _
          go_simp
          with_reducible rfl
         rotate_left
         ·simp only [pr_]
          rfl
         refine runs_ [(26, some 72), (27, some 73), (28, some 74)] ?_
         iterate 3 (refine pureL_ (v := ?_) (a' := ?_) rfl rfl (any_of HT_.out (by kernel_rfl)) (Or.inl ⟨by rfl, ?_⟩) ?_ ?_ (fun _ _ _ h => h); rotate_left; (intro w'; go_simp; with_reducible rfl); rotate_left; (simp only [pr_]; rfl))
         refine runsE_ ?_
         refine take_ (i := 35) (N := some 81) (v := ?_) (a' := ?_) #[true, true, true, true, true, true, true, true, true, true, true, true, true, true, true, true, true, true, true, true, true, true, true, true, true, true, true, true, true, true, true, true, true, true, true, true, false, false, false, false] rfl rfl (take_ofW HT_.out HW_.out (by kernel_rfl)) (fun _ _ _ h => h) (Or.inl ⟨by rfl, ?_⟩) hHeld ?_ ?_
         rotate_left
         ·intro w' _
          go_simp
          with_reducible rfl
         rotate_left
         ·simp only [pr_]
          rfl
         refine runs_ [(36, some 82), (37, some 83), (38, some 84)] ?_
         iterate 3 (refine pureL_ (v := ?_) (a' := ?_) rfl rfl (any_of HT_.out (by kernel_rfl)) (Or.inl ⟨by rfl, ?_⟩) ?_ ?_ (fun _ _ _ h => h); rotate_left; (intro w'; go_simp; with_reducible rfl); rotate_left; (simp only [pr_]; rfl))
         refine runsE_ ?_
         refine last_ (i := 39) (N := none) #[true, true, true, true, true, true, true, true, true, true, true, true, true, true, true, true, true, true, true, true, true, true, true, true, true, true, true, true, true, true, true, true, true, true, true, true, true, true, true, true] rfl rfl (one_of HT_.out (by kernel_rfl)) (by decide) (fun K hK => ?_)
         refine skip_set ⟨go46, (x8_2 : Int).toNat, none⟩ (.int .u32 (((((((bt t188 (ji27)) % 4294967296) * 16777216) + (((bt t188 (ji31)) % 4294967296) * 65536)) + (((bt t188 (ji35)) % 4294967296) * 256)) + (bt t188 (ji39))) % 4294967296)) (by rfl) rfl ?_ ?_
         ·first | (go_simp; done) | (go_simp; rfl) | (go_simp; (try simp only [IntKind.wrap_u32, IntKind.wrap_u8]); refine congrArg (fun v_ => World.setCell _ _ (Value.int _ v_)) ?_; omega)
         refine hK.out _ _ ?_
         clear hK K
         refine done_ (done_of HT_.out (by kernel_rfl)) ?_
         try go_wp2
         go_roundg k2
         case measure => have := HK1.out; have := HK2.out; omega
         case rel => exact ⟨(y192), (wrap64 (x8_2 + 1)), (by first | rfl | (simp; done) | (simp [*]; done) | (refine congrArg (Value.int _) ?_; first | omega | (unfold wrap64; omega))), H', ⟨by have := HK1.out; have := HK2.out; omega⟩, ⟨by (try simp only [hl3_1]); (try simp only [hl4_1]); (with_reducible repeat (first | apply Kd.R_alloc | apply Kd.R_drewN | apply Kd.R_drew)); exact Kd.R_mono (Kd.R_far (p := ⟨go46, (x8_2 : Int).toNat, none⟩) (Kd.R_types HO_3.out GG46.out (by decide)) (fun _ hk => hk.2) (.int .u32 (((((((bt t188 (ji27)) % 4294967296) * 16777216) + (((bt t188 (ji31)) % 4294967296) * 65536)) + (((bt t188 (ji35)) % 4294967296) * 256)) + (bt t188 (ji39))) % 4294967296))) (fun _ hk => trivial)⟩, ⟨by (try simp only [hl3_1]); (try simp only [hl4_1]); (with_reducible repeat (first | apply Kd.R_alloc | apply Kd.R_drewN | apply Kd.R_drew)); exact Kd.R_mono (Kd.R_far (p := ⟨go46, (x8_2 : Int).toNat, none⟩) (Kd.R_mono HO_4.out (fun k_ hk => (⟨hk, fun e_ => hk (by rw [e_]; rfl)⟩ : _ ∧ k_ ≠ go46))) (fun _ hk => hk.2) (.int .u32 (((((((bt t188 (ji27)) % 4294967296) * 16777216) + (((bt t188 (ji31)) % 4294967296) * 65536)) + (((bt t188 (ji35)) % 4294967296) * 256)) + (bt t188 (ji39))) % 4294967296))) (fun _ hk => hk.1)⟩, ⟨by (try simp only [hl3_1]); (try simp only [hl4_1]); (with_reducible repeat (first | apply Kd.R_alloc | apply Kd.R_drewN | apply Kd.R_drew)); exact HQ48.out⟩, ⟨by repeat (first | (with_reducible first | exact HB.out | apply lA_ | apply lN_ | apply lD_ | refine lS_ ?_ GB46.out) | exact HB.out)⟩⟩
        ·rw [if_neg c28] at H
         exact absurd H (by simp)
        ⟩
        exact inferInstanceAs _
       ·refine Nonempty.elim ?gc26n id
        letI i_ : type_of% ?gc26n := ⟨by
        rw [if_neg c26] at H
        have c26b0 : decide (x8_2 < 16) = false := decide_eq_false c26
        (try (have c26b7 := c26b0; simp only [hl3_1, hl4_1] at c26b7))
        clear c26
        by_cases c49 : x7_2.length = 64
        ·rw [if_pos c49] at H
         have c49b0 := eq_true c49
         have c49b1 : decide (x7_2.length = 64) = true := decide_eq_true c49
         clear c49
         obtain ⟨ji50, hji50⟩ : ∃ j_ : Int, (wrap64 (x8_2 - 15)) = j_ := ⟨_, rfl⟩
         replace H : (if 0 ≤ (ji50) then (if (ji50) < (x7_2.length : Int) then ((palaverref02_turn.f (rd x7_2 (ji50)) 7).bind fun t194 => ((palaverref02_turn.f (rd x7_2 (ji50)) 18).bind fun t196 => (if 0 ≤ (wrap64 (x8_2 - 2)) then (if (wrap64 (x8_2 - 2)) < (x7_2.length : Int) then ((palaverref02_turn.f (rd x7_2 (wrap64 (x8_2 - 2))) 17).bind fun t199 => ((palaverref02_turn.f (rd x7_2 (wrap64 (x8_2 - 2))) 19).bind fun t201 => (if 0 ≤ (wrap64 (x8_2 - 16)) then (if (wrap64 (x8_2 - 16)) < (x7_2.length : Int) then (if 0 ≤ (wrap64 (x8_2 - 7)) then (if (wrap64 (x8_2 - 7)) < (x7_2.length : Int) then (if 0 ≤ x8_2 then (if x8_2 < (x7_2.length : Int) then (palaverref02_Sum.l1 k2 x3_1 x4_1 t188 x6_1 (x7_2.set (x8_2 : Int).toNat (((((rd x7_2 (wrap64 (x8_2 - 16))) + (Go.bits .xor .u32 (Go.bits .xor .u32 t194 t196) ((rd x7_2 (ji50)) / 8))) + (rd x7_2 (wrap64 (x8_2 - 7)))) + (Go.bits .xor .u32 (Go.bits .xor .u32 t199 t201) ((rd x7_2 (wrap64 (x8_2 - 2))) / 1024))) % 4294967296)) (wrap64 (x8_2 + 1))) else (none)) else (none)) else (none)) else (none)) else (none)) else (none)))) else (none)) else (none)))) else (none)) else (none)) = some r := by first | (rw [hji50] at H; exact H) | (simp only [hji50] at H ⊢; exact H)
         have hji50w : (IntKind.i64.wrap (x8_2 - 15)) = ji50 := (i64_w _).trans hji50
         by_cases c51 : 0 ≤ (ji50)
         rotate_left
         ·rw [if_neg c51] at H
          exact absurd H (by simp)
         rw [if_pos c51] at H
         have c51b0 : decide (0 ≤ (ji50)) = true := decide_eq_true c51
         (try (have c51b7 := c51b0; simp only [hl3_1, hl4_1] at c51b7))
         clear c51
         by_cases c52 : (ji50) < (x7_2.length : Int)
         rotate_left
         ·rw [if_neg c52] at H
          exact absurd H (by simp)
         rw [if_pos c52] at H
         have c52b0 : decide ((ji50) < (x7_2.length : Int)) = true := decide_eq_true c52
         (try (have c52b7 := c52b0; simp only [hl3_1, hl4_1] at c52b7))
         clear c52
         replace H := ob_ H
         obtain ⟨t194, A530, H⟩ := H
         replace H : ((palaverref02_turn.f (rd x7_2 (ji50)) 18).bind fun t196 => (if 0 ≤ (wrap64 (x8_2 - 2)) then (if (wrap64 (x8_2 - 2)) < (x7_2.length : Int) then ((palaverref02_turn.f (rd x7_2 (wrap64 (x8_2 - 2))) 17).bind fun t199 => ((palaverref02_turn.f (rd x7_2 (wrap64 (x8_2 - 2))) 19).bind fun t201 => (if 0 ≤ (wrap64 (x8_2 - 16)) then (if (wrap64 (x8_2 - 16)) < (x7_2.length : Int) then (if 0 ≤ (wrap64 (x8_2 - 7)) then (if (wrap64 (x8_2 - 7)) < (x7_2.length : Int) then (if 0 ≤ x8_2 then (if x8_2 < (x7_2.length : Int) then (palaverref02_Sum.l1 k2 x3_1 x4_1 t188 x6_1 (x7_2.set (x8_2 : Int).toNat (((((rd x7_2 (wrap64 (x8_2 - 16))) + (Go.bits .xor .u32 (Go.bits .xor .u32 t194 t196) ((rd x7_2 (ji50)) / 8))) + (rd x7_2 (wrap64 (x8_2 - 7)))) + (Go.bits .xor .u32 (Go.bits .xor .u32 t199 t201) ((rd x7_2 (wrap64 (x8_2 - 2))) / 1024))) % 4294967296)) (wrap64 (x8_2 + 1))) else (none)) else (none)) else (none)) else (none)) else (none)) else (none)))) else (none)) else (none))) = some r := H
         have A53 := Aside0.mk A530
         clear A530
         replace H := ob_ H
         obtain ⟨t196, A540, H⟩ := H
         replace H : (if 0 ≤ (wrap64 (x8_2 - 2)) then (if (wrap64 (x8_2 - 2)) < (x7_2.length : Int) then ((palaverref02_turn.f (rd x7_2 (wrap64 (x8_2 - 2))) 17).bind fun t199 => ((palaverref02_turn.f (rd x7_2 (wrap64 (x8_2 - 2))) 19).bind fun t201 => (if 0 ≤ (wrap64 (x8_2 - 16)) then (if (wrap64 (x8_2 - 16)) < (x7_2.length : Int) then (if 0 ≤ (wrap64 (x8_2 - 7)) then (if (wrap64 (x8_2 - 7)) < (x7_2.length : Int) then (if 0 ≤ x8_2 then (if x8_2 < (x7_2.length : Int) then (palaverref02_Sum.l1 k2 x3_1 x4_1 t188 x6_1 (x7_2.set (x8_2 : Int).toNat (((((rd x7_2 (wrap64 (x8_2 - 16))) + (Go.bits .xor .u32 (Go.bits .xor .u32 t194 t196) ((rd x7_2 (ji50)) / 8))) + (rd x7_2 (wrap64 (x8_2 - 7)))) + (Go.bits .xor .u32 (Go.bits .xor .u32 t199 t201) ((rd x7_2 (wrap64 (x8_2 - 2))) / 1024))) % 4294967296)) (wrap64 (x8_2 + 1))) else (none)) else (none)) else (none)) else (none)) else (none)) else (none)))) else (none)) else (none)) = some r := H
         have A54 := Aside0.mk A540
         clear A540
         obtain ⟨ji55, hji55⟩ : ∃ j_ : Int, (wrap64 (x8_2 - 2)) = j_ := ⟨_, rfl⟩
         replace H : (if 0 ≤ (ji55) then (if (ji55) < (x7_2.length : Int) then ((palaverref02_turn.f (rd x7_2 (ji55)) 17).bind fun t199 => ((palaverref02_turn.f (rd x7_2 (ji55)) 19).bind fun t201 => (if 0 ≤ (wrap64 (x8_2 - 16)) then (if (wrap64 (x8_2 - 16)) < (x7_2.length : Int) then (if 0 ≤ (wrap64 (x8_2 - 7)) then (if (wrap64 (x8_2 - 7)) < (x7_2.length : Int) then (if 0 ≤ x8_2 then (if x8_2 < (x7_2.length : Int) then (palaverref02_Sum.l1 k2 x3_1 x4_1 t188 x6_1 (x7_2.set (x8_2 : Int).toNat (((((rd x7_2 (wrap64 (x8_2 - 16))) + (Go.bits .xor .u32 (Go.bits .xor .u32 t194 t196) ((rd x7_2 (ji50)) / 8))) + (rd x7_2 (wrap64 (x8_2 - 7)))) + (Go.bits .xor .u32 (Go.bits .xor .u32 t199 t201) ((rd x7_2 (ji55)) / 1024))) % 4294967296)) (wrap64 (x8_2 + 1))) else (none)) else (none)) else (none)) else (none)) else (none)) else (none)))) else (none)) else (none)) = some r := by first | (rw [hji55] at H; exact H) | (simp only [hji55] at H ⊢; exact H)
         (try rw [hji55] at A53)
         (try rw [hji55] at A54)
         have hji55w : (IntKind.i64.wrap (x8_2 - 2)) = ji55 := (i64_w _).trans hji55
         by_cases c56 : 0 ≤ (ji55)
         rotate_left
         ·rw [if_neg c56] at H
          exact absurd H (by simp)
         rw [if_pos c56] at H
         have c56b0 : decide (0 ≤ (ji55)) = true := decide_eq_true c56
         (try (have c56b7 := c56b0; simp only [hl3_1, hl4_1] at c56b7))
         clear c56
         by_cases c57 : (ji55) < (x7_2.length : Int)
         rotate_left
         ·rw [if_neg c57] at H
          exact absurd H (by simp)
         rw [if_pos c57] at H
         have c57b0 : decide ((ji55) < (x7_2.length : Int)) = true := decide_eq_true c57
         (try (have c57b7 := c57b0; simp only [hl3_1, hl4_1] at c57b7))
         clear c57
         replace H := ob_ H
         obtain ⟨t199, A580, H⟩ := H
         replace H : ((palaverref02_turn.f (rd x7_2 (ji55)) 19).bind fun t201 => (if 0 ≤ (wrap64 (x8_2 - 16)) then (if (wrap64 (x8_2 - 16)) < (x7_2.length : Int) then (if 0 ≤ (wrap64 (x8_2 - 7)) then (if (wrap64 (x8_2 - 7)) < (x7_2.length : Int) then (if 0 ≤ x8_2 then (if x8_2 < (x7_2.length : Int) then (palaverref02_Sum.l1 k2 x3_1 x4_1 t188 x6_1 (x7_2.set (x8_2 : Int).toNat (((((rd x7_2 (wrap64 (x8_2 - 16))) + (Go.bits .xor .u32 (Go.bits .xor .u32 t194 t196) ((rd x7_2 (ji50)) / 8))) + (rd x7_2 (wrap64 (x8_2 - 7)))) + (Go.bits .xor .u32 (Go.bits .xor .u32 t199 t201) ((rd x7_2 (ji55)) / 1024))) % 4294967296)) (wrap64 (x8_2 + 1))) else (none)) else (none)) else (none)) else (none)) else (none)) else (none))) = some r := H
         have A58 := Aside0.mk A580
         clear A580
         replace H := ob_ H
         obtain ⟨t201, A590, H⟩ := H
         replace H : (if 0 ≤ (wrap64 (x8_2 - 16)) then (if (wrap64 (x8_2 - 16)) < (x7_2.length : Int) then (if 0 ≤ (wrap64 (x8_2 - 7)) then (if (wrap64 (x8_2 - 7)) < (x7_2.length : Int) then (if 0 ≤ x8_2 then (if x8_2 < (x7_2.length : Int) then (palaverref02_Sum.l1 k2 x3_1 x4_1 t188 x6_1 (x7_2.set (x8_2 : Int).toNat (((((rd x7_2 (wrap64 (x8_2 - 16))) + (Go.bits .xor .u32 (Go.bits .xor .u32 t194 t196) ((rd x7_2 (ji50)) / 8))) + (rd x7_2 (wrap64 (x8_2 - 7)))) + (Go.bits .xor .u32 (Go.bits .xor .u32 t199 t201) ((rd x7_2 (ji55)) / 1024))) % 4294967296)) (wrap64 (x8_2 + 1))) else (none)) else (none)) else (none)) else (none)) else (none)) else (none)) = some r := H
         have A59 := Aside0.mk A590
         clear A590
         obtain ⟨ji60, hji60⟩ : ∃ j_ : Int, (wrap64 (x8_2 - 16)) = j_ := ⟨_, rfl⟩
         replace H : (if 0 ≤ (ji60) then (if (ji60) < (x7_2.length : Int) then (if 0 ≤ (wrap64 (x8_2 - 7)) then (if (wrap64 (x8_2 - 7)) < (x7_2.length : Int) then (if 0 ≤ x8_2 then (if x8_2 < (x7_2.length : Int) then (palaverref02_Sum.l1 k2 x3_1 x4_1 t188 x6_1 (x7_2.set (x8_2 : Int).toNat (((((rd x7_2 (ji60)) + (Go.bits .xor .u32 (Go.bits .xor .u32 t194 t196) ((rd x7_2 (ji50)) / 8))) + (rd x7_2 (wrap64 (x8_2 - 7)))) + (Go.bits .xor .u32 (Go.bits .xor .u32 t199 t201) ((rd x7_2 (ji55)) / 1024))) % 4294967296)) (wrap64 (x8_2 + 1))) else (none)) else (none)) else (none)) else (none)) else (none)) else (none)) = some r := by first | (rw [hji60] at H; exact H) | (simp only [hji60] at H ⊢; exact H)
         (try rw [hji60] at A53)
         (try rw [hji60] at A54)
         (try rw [hji60] at A58)
         (try rw [hji60] at A59)
         have hji60w : (IntKind.i64.wrap (x8_2 - 16)) = ji60 := (i64_w _).trans hji60
         by_cases c61 : 0 ≤ (ji60)
         rotate_left
         ·rw [if_neg c61] at H
          exact absurd H (by simp)
         rw [if_pos c61] at H
         have c61b0 : decide (0 ≤ (ji60)) = true := decide_eq_true c61
         (try (have c61b7 := c61b0; simp only [hl3_1, hl4_1] at c61b7))
         clear c61
         by_cases c62 : (ji60) < (x7_2.length : Int)
         rotate_left
         ·rw [if_neg c62] at H
          exact absurd H (by simp)
         rw [if_pos c62] at H
         have c62b0 : decide ((ji60) < (x7_2.length : Int)) = true := decide_eq_true c62
         (try (have c62b7 := c62b0; simp only [hl3_1, hl4_1] at c62b7))
         clear c62
         obtain ⟨ji63, hji63⟩ : ∃ j_ : Int, (wrap64 (x8_2 - 7)) = j_ := ⟨_, rfl⟩
         replace H : (if 0 ≤ (ji63) then (if (ji63) < (x7_2.length : Int) then (if 0 ≤ x8_2 then (if x8_2 < (x7_2.length : Int) then (palaverref02_Sum.l1 k2 x3_1 x4_1 t188 x6_1 (x7_2.set (x8_2 : Int).toNat (((((rd x7_2 (ji60)) + (Go.bits .xor .u32 (Go.bits .xor .u32 t194 t196) ((rd x7_2 (ji50)) / 8))) + (rd x7_2 (ji63))) + (Go.bits .xor .u32 (Go.bits .xor .u32 t199 t201) ((rd x7_2 (ji55)) / 1024))) % 4294967296)) (wrap64 (x8_2 + 1))) else (none)) else (none)) else (none)) else (none)) = some r := by first | (rw [hji63] at H; exact H) | (simp only [hji63] at H ⊢; exact H)
         (try rw [hji63] at A53)
         (try rw [hji63] at A54)
         (try rw [hji63] at A58)
         (try rw [hji63] at A59)
         have hji63w : (IntKind.i64.wrap (x8_2 - 7)) = ji63 := (i64_w _).trans hji63
         by_cases c64 : 0 ≤ (ji63)
         rotate_left
         ·rw [if_neg c64] at H
          exact absurd H (by simp)
         rw [if_pos c64] at H
         have c64b0 : decide (0 ≤ (ji63)) = true := decide_eq_true c64
         (try (have c64b7 := c64b0; simp only [hl3_1, hl4_1] at c64b7))
         clear c64
         by_cases c65 : (ji63) < (x7_2.length : Int)
         rotate_left
         ·rw [if_neg c65] at H
          exact absurd H (by simp)
         rw [if_pos c65] at H
         have c65b0 : decide ((ji63) < (x7_2.length : Int)) = true := decide_eq_true c65
         (try (have c65b7 := c65b0; simp only [hl3_1, hl4_1] at c65b7))
         clear c65
         by_cases c66 : 0 ≤ x8_2
         rotate_left
         ·rw [if_neg c66] at H
          exact absurd H (by simp)
         rw [if_pos c66] at H
         have c66b0 : decide (0 ≤ x8_2) = true := decide_eq_true c66
         (try (have c66b7 := c66b0; simp only [hl3_1, hl4_1] at c66b7))
         clear c66
         by_cases c67 : x8_2 < (x7_2.length : Int)
         rotate_left
         ·rw [if_neg c67] at H
          exact absurd H (by simp)
         rw [if_pos c67] at H
         have c67b0 : decide (x8_2 < (x7_2.length : Int)) = true := decide_eq_true c67
         (try (have c67b7 := c67b0; simp only [hl3_1, hl4_1] at c67b7))
         clear c67
         obtain ⟨y205, hy205⟩ : ∃ y_ : List Int, y_ = (x7_2.set (x8_2 : Int).toNat (((((rd x7_2 (ji60)) + (Go.bits .xor .u32 (Go.bits .xor .u32 t194 t196) ((rd x7_2 (ji50)) / 8))) + (rd x7_2 (ji63))) + (Go.bits .xor .u32 (Go.bits .xor .u32 t199 t201) ((rd x7_2 (ji55)) / 1024))) % 4294967296)) := ⟨_, rfl⟩
         replace H : (palaverref02_Sum.l1 k2 x3_1 x4_1 t188 x6_1 y205 (wrap64 (x8_2 + 1))) = some r := by first | (rw [hy205]; with_reducible exact H) | (have H2_ := (Option.bind_some _ _).symm.trans H; rw [hy205]; with_reducible exact H2_) | (have H2_ := (Option.bind_some _ _).symm.trans H; with_reducible exact H2_) | with_reducible exact H | (rw [hy205]; exact H) | exact H
         have Ny205 := Aside0.mk hy205
         clear hy205
         have H' := Aside0.mk H
         clear H
         try go_wp2
         have n0_ := Aside0.mk (Kd.R_drew HO_3.out)
         have n1_ := Aside0.mk (Kd.R_drew HO_4.out)
         have n2_ := Aside0.mk (Kd.R_drew HO_7.out)
         have n3_ := Aside0.mk (below_drew1 HB.out)
         clear HO_3
         clear HO_4
         clear HO_7
         clear HB
         have HO_3 := n0_
         have HO_4 := n1_
         have HO_7 := n2_
         have HB := n3_
         clear n0_ n1_ n2_ n3_
         obtain ⟨Ao70, co70, eo70⟩ := Kd.R_slice HO_7.out
         (first | subst eo70 | (injection eo70 with f1_ f2_ f3_; have f4_ := f1_.symm; have f5_ := f3_.symm; clear f1_ f2_ f3_; subst f4_; subst f5_))
         have qa193 : (((ji50) : Int) < (64 : Int)) = True := eq_true (by have e_ : x7_2.length = 64 := od_ (by assumption); have h_ : ((ji50) : Int) < ((x7_2.length : Int) : Int) := od_ (by assumption); omega)
         have p193 : 0 ≤ ((ji50) : Int) := od_ (by assumption)
         have q193 : (ji50) < (x7_2.length : Int) := od_ (by assumption)
         obtain ⟨ad193, e193, hx193_0⟩ := Kd.at_int (Kd.R_reads' HO_7.out).2.2 (ji50) p193 q193
         cases e193
         replace p193 := eq_true p193
         replace q193 := eq_true q193
         have qa195 : (((ji50) : Int) < (64 : Int)) = True := eq_true (by have e_ : x7_2.length = 64 := od_ (by assumption); have h_ : ((ji50) : Int) < ((x7_2.length : Int) : Int) := od_ (by assumption); omega)
         have p195 : 0 ≤ ((ji50) : Int) := od_ (by assumption)
         have q195 : (ji50) < (x7_2.length : Int) := od_ (by assumption)
         obtain ⟨ad195, e195, hx195_0⟩ := Kd.at_int (Kd.R_reads' HO_7.out).2.2 (ji50) p195 q195
         obtain rfl : ad193 = ad195 := (by injection e195)
         replace p195 := eq_true p195
         replace q195 := eq_true q195
         have qa197 : (((ji50) : Int) < (64 : Int)) = True := eq_true (by have e_ : x7_2.length = 64 := od_ (by assumption); have h_ : ((ji50) : Int) < ((x7_2.length : Int) : Int) := od_ (by assumption); omega)
         have p197 : 0 ≤ ((ji50) : Int) := od_ (by assumption)
         have q197 : (ji50) < (x7_2.length : Int) := od_ (by assumption)
         obtain ⟨ad197, e197, hx197_0⟩ := Kd.at_int (Kd.R_reads' HO_7.out).2.2 (ji50) p197 q197
         obtain rfl : ad193 = ad197 := (by injection e197)
         replace p197 := eq_true p197
         replace q197 := eq_true q197
         refine start_ (n := 18) (S := fun w' => w'.cell? (ad193.add ((ji50)).toNat) = some (.int .u32 (rd x7_2 (ji50))) ∧ w'.cell? (ad193.add ((ji50)).toNat) = some (.int .u32 (rd x7_2 (ji50))) ∧ w'.cell? (ad193.add ((ji50)).toNat) = some (.int .u32 (rd x7_2 (ji50)))) (ds := []) #[false, false, false, false, false, false, false, false, false, false, false, false, false, false, false, false, false, false] (by kernel_rfl) rfl rfl ⟨hx193_0, hx195_0, hx197_0⟩ (fun hHeld => ?_); refine with_tabW palaverref02_Sum.tab13 palaverref02_Sum.bits13 (fun HT_ HW_ => ?_)
         generalize wr.drew = w69 at HO_3 HO_4 HO_7 HB hx193_0 hx195_0 hx197_0 hHeld ⊢
         refine runs_ [(0, some 85), (1, some 86), (2, some 87), (5, some 90), (6, some 91), (7, some 92), (11, some 96), (12, some 97), (13, some 98)] ?_
         iterate 9 (refine pureL_ (v := ?_) (a' := ?_) rfl rfl (any_of HT_.out (by kernel_rfl)) (Or.inl ⟨by rfl, ?_⟩) ?_ ?_ (fun _ _ _ h => h); rotate_left; (intro w'; go_simp; with_reducible rfl); rotate_left; (simp only [pr_]; rfl))
         refine runsE_ ?_
         refine runs_ [(3, some 88), (8, some 93), (14, some 99)] ?_
         iterate 3 (refine takeL_ (v := ?_) (a' := ?_) rfl rfl (take_ofW HT_.out HW_.out (by kernel_rfl)) (Or.inl ⟨by rfl, ?_⟩) hHeld ?_ ?_ (fun _ _ _ h => h); rotate_left; (rintro w' ⟨s0, s1, s2⟩; go_simp; with_reducible rfl); rotate_left; (simp only [pr_]; rfl))
         refine runsE_ ?_
         refine pure_ (i := 15) (N := some 100) (v := ?_) (a' := ?_) #[true, true, true, true, false, true, true, true, true, false, false, true, true, true, true, true, false, false] rfl rfl (any_of HT_.out (by kernel_rfl)) (fun _ _ _ h => h) (Or.inl ⟨by rfl, ?_⟩) ?_ ?_
         rotate_left
         ·intro w'
          go_simp
          with_reducible rfl
         rotate_left
         ·simp only [pr_]
          rfl
         refine one_ (i := 4) (N := some 89) #[true, true, true, true, true, true, true, true, true, false, false, true, true, true, true, true, false, false] rfl rfl (one_of HT_.out (by kernel_rfl)) (by decide) (fun K hK => ?_)
         refine goes_ Tryd.func79 (by kernel_rfl) rfl #[.int .u32 (rd x7_2 (ji50)), .int .u32 7] (by rfl) rfl rfl (by (try simp only [List.map_toArray, List.map_cons, List.map_nil]); first | done | (simp only [hji50]; rfl) | rfl | (simp only [List.length_drop, List.length_take]; rfl)) ?_
         with_reducible refine (palaverref02_turn.calls (rd x7_2 (ji50)) 7 t194 _ A53.out).mono ?_
         rintro e w' ⟨rfl, ⟨nd, rfl⟩⟩
         refine ⟨_, rfl, ?_⟩
         refine hK.out _ _ ⟨hHeld.1, hHeld.2.1, hHeld.2.2⟩ (fun hHeld => ?_)
         clear hK K
         refine norm_ (a' := ?_) ?_ ?_
         rotate_left
         ·show Act.put _ (some 89) _ = _
          simp only [pr_]
          rfl
         refine one_ (i := 9) (N := some 94) #[true, true, true, true, true, true, true, true, true, true, false, true, true, true, true, true, false, false] rfl rfl (one_of HT_.out (by kernel_rfl)) (by decide) (fun K hK => ?_)
         refine goes_ Tryd.func79 (by kernel_rfl) rfl #[.int .u32 (rd x7_2 (ji50)), .int .u32 18] (by rfl) rfl rfl (by (try simp only [List.map_toArray, List.map_cons, List.map_nil]); first | done | (simp only [hji50]; rfl) | rfl | (simp only [List.length_drop, List.length_take]; rfl)) ?_
         with_reducible refine (palaverref02_turn.calls (rd x7_2 (ji50)) 18 t196 _ A54.out).mono ?_
         rintro e w' ⟨rfl, ⟨nd, rfl⟩⟩
         refine ⟨_, rfl, ?_⟩
         refine hK.out _ _ ⟨hHeld.1, hHeld.2.1, hHeld.2.2⟩ (fun hHeld => ?_)
         clear hK K
         refine norm_ (a' := ?_) ?_ ?_
         rotate_left
         ·show Act.put _ (some 94) _ = _
          simp only [pr_]
          rfl
         refine runs_ [(10, some 95), (16, some 101), (17, some 9)] ?_
         iterate 3 (refine pureL_ (v := ?_) (a' := ?_) rfl rfl (any_of HT_.out (by kernel_rfl)) (Or.inl ⟨by rfl, ?_⟩) ?_ ?_ (fun _ _ _ h => h); rotate_left; (intro w'; go_simp; with_reducible rfl); rotate_left; (simp only [pr_]; rfl))
         refine runsE_ ?_
         refine done_ (done_of HT_.out (by kernel_rfl)) ?_
         try go_wp2
         (try (rw [drewN_self w69]; generalize hq_ : World.drewN w69 _ = w69; have n0_ : Aside0 (Kd.R (Kd.int .u32) 105 w69 w.heap.size (fun _ => True) (.slice (some ⟨go5, 0, none⟩) x3_1.length co5) x3_1) := ⟨by rw [← hq_]; exact (by (with_reducible repeat (first | apply Kd.R_alloc | apply Kd.R_drewN | apply Kd.R_drew)); exact HO_3.out)⟩; have n1_ : Aside0 (Kd.R (Kd.int .u32) 113 w69 w.heap.size (fun k_ => some k_ ≠ (.slice (some ad193) x7_2.length co70 : Value).ownBlock) (.slice (some ⟨go9, 0, none⟩) x4_1.length co9) x4_1) := ⟨by rw [← hq_]; exact (by (with_reducible repeat (first | apply Kd.R_alloc | apply Kd.R_drewN | apply Kd.R_drew)); exact HO_4.out)⟩; have n2_ : Aside0 (Kd.R (Kd.int .u32) 113 w69 w.heap.size (fun k_ => some k_ ≠ (.slice (some ⟨go9, 0, none⟩) x4_1.length co9 : Value).ownBlock) (.slice (some ad193) x7_2.length co70) x7_2) := ⟨by rw [← hq_]; exact (by (with_reducible repeat (first | apply Kd.R_alloc | apply Kd.R_drewN | apply Kd.R_drew)); exact HO_7.out)⟩; have n3_ : Aside0 (Below w.heap.size w w69) := ⟨by rw [← hq_]; exact (by repeat (first | (with_reducible first | exact HB.out | apply lA_ | apply lN_ | apply lD_) | exact HB.out))⟩; clear HO_3 HO_4 HO_7 HB hq_; have HO_3 := n0_; have HO_4 := n1_; have HO_7 := n2_; have HB := n3_; clear n0_ n1_ n2_ n3_))
         have n0_ := Aside0.mk (Kd.R_drew HO_3.out)
         have n1_ := Aside0.mk (Kd.R_drew HO_4.out)
         have n2_ := Aside0.mk (Kd.R_drew HO_7.out)
         have n3_ := Aside0.mk (below_drew1 HB.out)
         clear HO_3
         clear HO_4
         clear HO_7
         clear HB
         have HO_3 := n0_
         have HO_4 := n1_
         have HO_7 := n2_
         have HB := n3_
         clear n0_ n1_ n2_ n3_
         have qa198 : (((ji55) : Int) < (64 : Int)) = True := eq_true (by have e_ : x7_2.length = 64 := od_ (by assumption); have h_ : ((ji55) : Int) < ((x7_2.length : Int) : Int) := od_ (by assumption); omega)
         have p198 : 0 ≤ ((ji55) : Int) := od_ (by assumption)
         have q198 : (ji55) < (x7_2.length : Int) := od_ (by assumption)
         obtain ⟨ad198, e198, hx198_0⟩ := Kd.at_int (Kd.R_reads' HO_7.out).2.2 (ji55) p198 q198
         obtain rfl : ad193 = ad198 := (by injection e198)
         replace p198 := eq_true p198
         replace q198 := eq_true q198
         have qa200 : (((ji55) : Int) < (64 : Int)) = True := eq_true (by have e_ : x7_2.length = 64 := od_ (by assumption); have h_ : ((ji55) : Int) < ((x7_2.length : Int) : Int) := od_ (by assumption); omega)
         have p200 : 0 ≤ ((ji55) : Int) := od_ (by assumption)
         have q200 : (ji55) < (x7_2.length : Int) := od_ (by assumption)
         obtain ⟨ad200, e200, hx200_0⟩ := Kd.at_int (Kd.R_reads' HO_7.out).2.2 (ji55) p200 q200
         obtain rfl : ad193 = ad200 := (by injection e200)
         replace p200 := eq_true p200
         replace q200 := eq_true q200
         have qa202 : (((ji55) : Int) < (64 : Int)) = True := eq_true (by have e_ : x7_2.length = 64 := od_ (by assumption); have h_ : ((ji55) : Int) < ((x7_2.length : Int) : Int) := od_ (by assumption); omega)
         have p202 : 0 ≤ ((ji55) : Int) := od_ (by assumption)
         have q202 : (ji55) < (x7_2.length : Int) := od_ (by assumption)
         obtain ⟨ad202, e202, hx202_0⟩ := Kd.at_int (Kd.R_reads' HO_7.out).2.2 (ji55) p202 q202
         obtain rfl : ad193 = ad202 := (by injection e202)
         replace p202 := eq_true p202
         replace q202 := eq_true q202
         refine start_ (n := 18) (S := fun w' => w'.cell? (ad193.add ((ji55)).toNat) = some (.int .u32 (rd x7_2 (ji55))) ∧ w'.cell? (ad193.add ((ji55)).toNat) = some (.int .u32 (rd x7_2 (ji55))) ∧ w'.cell? (ad193.add ((ji55)).toNat) = some (.int .u32 (rd x7_2 (ji55)))) (ds := []) #[false, false, false, false, false, false, false, false, false, false, false, false, false, false, false, false, false, false] (by kernel_rfl) rfl rfl ⟨hx198_0, hx200_0, hx202_0⟩ (fun hHeld => ?_); refine with_tabW palaverref02_Sum.tab14 palaverref02_Sum.bits14 (fun HT_ HW_ => ?_)
         generalize w69.drew = w71 at HO_3 HO_4 HO_7 HB hx198_0 hx200_0 hx202_0 hHeld ⊢
         refine runs_ [(0, some 102), (1, some 103), (2, some 104), (5, some 107), (6, some 108), (7, some 109), (11, some 113), (12, some 114), (13, some 115)] ?_
         iterate 9 (refine pureL_ (v := ?_) (a' := ?_) rfl rfl (any_of HT_.out (by kernel_rfl)) (Or.inl ⟨by rfl, ?_⟩) ?_ ?_ (fun _ _ _ h => h); rotate_left; (intro w'; go_simp; with_reducible rfl); rotate_left; (simp only [pr_]; rfl))
         refine runsE_ ?_
         refine runs_ [(3, some 105), (8, some 110), (14, some 116)] ?_
         iterate 3 (refine takeL_ (v := ?_) (a' := ?_) rfl rfl (take_ofW HT_.out HW_.out (by kernel_rfl)) (Or.inl ⟨by rfl, ?_⟩) hHeld ?_ ?_ (fun _ _ _ h => h); rotate_left; (rintro w' ⟨s0, s1, s2⟩; go_simp; with_reducible rfl); rotate_left; (simp only [pr_]; rfl))
         refine runsE_ ?_
         refine pure_ (i := 15) (N := some 117) (v := ?_) (a' := ?_) #[true, true, true, true, false, true, true, true, true, false, false, true, true, true, true, true, false, false] rfl rfl (any_of HT_.out (by kernel_rfl)) (fun _ _ _ h => h) (Or.inl ⟨by rfl, ?_⟩) ?_ ?_
         rotate_left
         ·intro w'
          go_simp
          with_reducible rfl
         rotate_left
         ·simp only [pr_]
          rfl
         refine one_ (i := 4) (N := some 106) #[true, true, true, true, true, true, true, true, true, false, false, true, true, true, true, true, false, false] rfl rfl (one_of HT_.out (by kernel_rfl)) (by decide) (fun K hK => ?_)
         refine goes_ Tryd.func79 (by kernel_rfl) rfl #[.int .u32 (rd x7_2 (ji55)), .int .u32 17] (by rfl) rfl rfl (by (try simp only [List.map_toArray, List.map_cons, List.map_nil]); first | done | (simp only [hji55]; rfl) | rfl | (simp only [List.length_drop, List.length_take]; rfl)) ?_
         with_reducible refine (palaverref02_turn.calls (rd x7_2 (ji55)) 17 t199 _ A58.out).mono ?_
         rintro e w' ⟨rfl, ⟨nd, rfl⟩⟩
         refine ⟨_, rfl, ?_⟩
         refine hK.out _ _ ⟨hHeld.1, hHeld.2.1, hHeld.2.2⟩ (fun hHeld => ?_)
         clear hK K
         refine norm_ (a' := ?_) ?_ ?_
         rotate_left
         ·show Act.put _ (some 106) _ = _
          simp only [pr_]
          rfl
         refine one_ (i := 9) (N := some 111) #[true, true, true, true, true, true, true, true, true, true, false, true, true, true, true, true, false, false] rfl rfl (one_of HT_.out (by kernel_rfl)) (by decide) (fun K hK => ?_)
         refine goes_ Tryd.func79 (by kernel_rfl) rfl #[.int .u32 (rd x7_2 (ji55)), .int .u32 19] (by rfl) rfl rfl (by (try simp only [List.map_toArray, List.map_cons, List.map_nil]); first | done | (simp only [hji55]; rfl) | rfl | (simp only [List.length_drop, List.length_take]; rfl)) ?_
         with_reducible refine (palaverref02_turn.calls (rd x7_2 (ji55)) 19 t201 _ A59.out).mono ?_
         rintro e w' ⟨rfl, ⟨nd, rfl⟩⟩
         refine ⟨_, rfl, ?_⟩
         refine hK.out _ _ ⟨hHeld.1, hHeld.2.1, hHeld.2.2⟩ (fun hHeld => ?_)
         clear hK K
         refine norm_ (a' := ?_) ?_ ?_
         rotate_left
         ·show Act.put _ (some 111) _ = _
          simp only [pr_]
          rfl
         refine runs_ [(10, some 112), (16, some 118), (17, some 10)] ?_
         iterate 3 (refine pureL_ (v := ?_) (a' := ?_) rfl rfl (any_of HT_.out (by kernel_rfl)) (Or.inl ⟨by rfl, ?_⟩) ?_ ?_ (fun _ _ _ h => h); rotate_left; (intro w'; go_simp; with_reducible rfl); rotate_left; (simp only [pr_]; rfl))
         refine runsE_ ?_
         refine done_ (done_of HT_.out (by kernel_rfl)) ?_
         try go_wp2
         (try (rw [drewN_self w71]; generalize hq_ : World.drewN w71 _ = w71; have n0_ : Aside0 (Kd.R (Kd.int .u32) 105 w71 w.heap.size (fun _ => True) (.slice (some ⟨go5, 0, none⟩) x3_1.length co5) x3_1) := ⟨by rw [← hq_]; exact (by (with_reducible repeat (first | apply Kd.R_alloc | apply Kd.R_drewN | apply Kd.R_drew)); exact HO_3.out)⟩; have n1_ : Aside0 (Kd.R (Kd.int .u32) 113 w71 w.heap.size (fun k_ => some k_ ≠ (.slice (some ad193) x7_2.length co70 : Value).ownBlock) (.slice (some ⟨go9, 0, none⟩) x4_1.length co9) x4_1) := ⟨by rw [← hq_]; exact (by (with_reducible repeat (first | apply Kd.R_alloc | apply Kd.R_drewN | apply Kd.R_drew)); exact HO_4.out)⟩; have n2_ : Aside0 (Kd.R (Kd.int .u32) 113 w71 w.heap.size (fun k_ => some k_ ≠ (.slice (some ⟨go9, 0, none⟩) x4_1.length co9 : Value).ownBlock) (.slice (some ad193) x7_2.length co70) x7_2) := ⟨by rw [← hq_]; exact (by (with_reducible repeat (first | apply Kd.R_alloc | apply Kd.R_drewN | apply Kd.R_drew)); exact HO_7.out)⟩; have n3_ : Aside0 (Below w.heap.size w w71) := ⟨by rw [← hq_]; exact (by repeat (first | (with_reducible first | exact HB.out | apply lA_ | apply lN_ | apply lD_) | exact HB.out))⟩; clear HO_3 HO_4 HO_7 HB hq_; have HO_3 := n0_; have HO_4 := n1_; have HO_7 := n2_; have HB := n3_; clear n0_ n1_ n2_ n3_))
         have n0_ := Aside0.mk (Kd.R_drew HO_3.out)
         have n1_ := Aside0.mk (Kd.R_drew HO_4.out)
         have n2_ := Aside0.mk (Kd.R_drew HO_7.out)
         have n3_ := Aside0.mk (below_drew1 HB.out)
         clear HO_3
         clear HO_4
         clear HO_7
         clear HB
         have HO_3 := n0_
         have HO_4 := n1_
         have HO_7 := n2_
         have HB := n3_
         clear n0_ n1_ n2_ n3_
         have qa203 : (((ji60) : Int) < (64 : Int)) = True := eq_true (by have e_ : x7_2.length = 64 := od_ (by assumption); have h_ : ((ji60) : Int) < ((x7_2.length : Int) : Int) := od_ (by assumption); omega)
         have p203 : 0 ≤ ((ji60) : Int) := od_ (by assumption)
         have q203 : (ji60) < (x7_2.length : Int) := od_ (by assumption)
         obtain ⟨ad203, e203, hx203_0⟩ := Kd.at_int (Kd.R_reads' HO_7.out).2.2 (ji60) p203 q203
         obtain rfl : ad193 = ad203 := (by injection e203)
         replace p203 := eq_true p203
         replace q203 := eq_true q203
         have qa204 : (((ji63) : Int) < (64 : Int)) = True := eq_true (by have e_ : x7_2.length = 64 := od_ (by assumption); have h_ : ((ji63) : Int) < ((x7_2.length : Int) : Int) := od_ (by assumption); omega)
         have p204 : 0 ≤ ((ji63) : Int) := od_ (by assumption)
         have q204 : (ji63) < (x7_2.length : Int) := od_ (by assumption)
         obtain ⟨ad204, e204, hx204_0⟩ := Kd.at_int (Kd.R_reads' HO_7.out).2.2 (ji63) p204 q204
         obtain rfl : ad193 = ad204 := (by injection e204)
         replace p204 := eq_true p204
         replace q204 := eq_true q204
         have qa68 : ((x8_2 : Int) < (64 : Int)) = True := eq_true (by have e_ : x7_2.length = 64 := od_ (by assumption); have h_ : (x8_2 : Int) < ((x7_2.length : Int) : Int) := od_ (by assumption); omega)
         have p68 : 0 ≤ (x8_2 : Int) := od_ (by assumption)
         have q68 : (x8_2 : Int) < ((x7_2.length : Int) : Int) := od_ (by assumption)
         obtain ⟨go68, co68, eo68, gb68, gl68, cl68, HG68⟩ := Kd.R_form HO_7.out (by omega)
         (first | cases eo68 | (injection eo68 with ea_ en_ ec_; (first | subst ea_ | (injection ea_ with ea_; subst ea_)); subst ec_; clear en_))
         have GB68 := Aside0.mk gb68
         have GG68 := Aside0.mk HG68
         clear gb68 gl68 HG68
         (first | simp only [add_plain] at hx193_0 | skip)
         (first | simp only [add_plain] at hx195_0 | skip)
         (first | simp only [add_plain] at hx197_0 | skip)
         (first | simp only [add_plain] at hx198_0 | skip)
         (first | simp only [add_plain] at hx200_0 | skip)
         (first | simp only [add_plain] at hx202_0 | skip)
         (first | simp only [add_plain] at hx203_0 | skip)
         (first | simp only [add_plain] at hx204_0 | skip)
         obtain ⟨hx68_0, hf68_0⟩ := Kd.R_celln 0 HO_7.out (x8_2 : Int) p68 q68
         replace p68 := eq_true p68
         replace q68 := eq_true q68
         have HP73 := Kd.R_putn HO_7.out (x8_2 : Int) (((((rd x7_2 (ji60)) + (Go.bits .xor .u32 (Go.bits .xor .u32 t194 t196) ((rd x7_2 (ji50)) / 8))) + (rd x7_2 (ji63))) + (Go.bits .xor .u32 (Go.bits .xor .u32 t199 t201) ((rd x7_2 (ji55)) / 1024))) % 4294967296)
         rw [← Ny205.out] at HP73
         have HQ73 := Aside0.mk HP73
         clear HP73
         refine start_ (n := 16) (S := fun w' => w'.cell? ⟨go68, ((ji60)).toNat, none⟩ = some (.int .u32 (rd x7_2 (ji60))) ∧ w'.cell? ⟨go68, ((ji63)).toNat, none⟩ = some (.int .u32 (rd x7_2 (ji63)))) (ds := [15]) #[false, false, false, false, false, false, false, false, false, false, false, false, false, false, false, false] (by kernel_rfl) rfl rfl ⟨hx203_0, hx204_0⟩ (fun hHeld => ?_); refine with_tabW palaverref02_Sum.tab15 palaverref02_Sum.bits15 (fun HT_ HW_ => ?_)
         generalize w71.drew = w72 at HO_3 HO_4 HO_7 HB GG68 HQ73 hf68_0 hx193_0 hx195_0 hx197_0 hx198_0 hx200_0 hx202_0 hx203_0 hx204_0 hx68_0 hHeld ⊢
         refine runs_ [(0, some 119), (1, some 120), (2, some 121), (3, some 122), (5, some 124), (7, some 126), (8, some 127), (9, some 128), (12, some 131)] ?_
         iterate 9 (refine pureL_ (v := ?_) (a' := ?_) rfl rfl (any_of HT_.out (by kernel_rfl)) (Or.inl ⟨by rfl, ?_⟩) ?_ ?_ (fun _ _ _ h => h); rotate_left; (intro w'; go_simp; with_reducible rfl); rotate_left; (simp only [pr_]; rfl))
         refine runsE_ ?_
         refine take_ (i := 4) (N := some 123) (v := ?_) (a' := ?_) #[true, true, true, true, true, true, false, true, true, true, false, false, true, false, false, false] rfl rfl (take_ofW HT_.out HW_.out (by kernel_rfl)) (fun _ _ _ h => h) (Or.inl ⟨by rfl, ?_⟩) hHeld ?_ ?_
         rotate_left
         ·rintro w' ⟨s0, s1⟩
          go_simp
          with_reducible rfl
         rotate_left
         ·simp only [pr_]
          rfl
         refine pure_ (i := 6) (N := some 125) (v := ?_) (a' := ?_) #[true, true, true, true, true, true, true, true, true, true, false, false, true, false, false, false] rfl rfl (any_of HT_.out (by kernel_rfl)) (fun _ _ _ h => h) (Or.inl ⟨by rfl, ?_⟩) ?_ ?_
         rotate_left
         ·intro w'
          go_simp
          with_reducible rfl
         rotate_left
         ·simp only [pr_]
          rfl
         refine take_ (i := 10) (N := some 129) (v := ?_) (a' := ?_) #[true, true, true, true, true, true, true, true, true, true, true, false, true, false, false, false] rfl rfl (take_ofW HT_.out HW_.out (by kernel_rfl)) (fun _ _ _ h => h) (Or.inl ⟨by rfl, ?_⟩) hHeld ?_ ?_
         rotate_left
         ·rintro w' ⟨s0, s1⟩
          go_simp
          with_reducible rfl
         rotate_left
         ·simp only [pr_]
          rfl
         refine runs_ [(11, some 130), (13, some 132), (14, some 133)] ?_
         iterate 3 (refine pureL_ (v := ?_) (a' := ?_) rfl rfl (any_of HT_.out (by kernel_rfl)) (Or.inl ⟨by rfl, ?_⟩) ?_ ?_ (fun _ _ _ h => h); rotate_left; (intro w'; go_simp; with_reducible rfl); rotate_left; (simp only [pr_]; rfl))
         refine runsE_ ?_
         refine last_ (i := 15) (N := none) #[true, true, true, true, true, true, true, true, true, true, true, true, true, true, true, true] rfl rfl (one_of HT_.out (by kernel_rfl)) (by decide) (fun K hK => ?_)
         refine skip_set ⟨go68, (x8_2 : Int).toNat, none⟩ (.int .u32 (((((rd x7_2 (ji60)) + (Go.bits .xor .u32 (Go.bits .xor .u32 t194 t196) ((rd x7_2 (ji50)) / 8))) + (rd x7_2 (ji63))) + (Go.bits .xor .u32 (Go.bits .xor .u32 t199 t201) ((rd x7_2 (ji55)) / 1024))) % 4294967296)) (by rfl) rfl ?_ ?_
         ·first | (go_simp; done) | (go_simp; rfl) | (go_simp; (try simp only [IntKind.wrap_u32, IntKind.wrap_u8]); refine congrArg (fun v_ => World.setCell _ _ (Value.int _ v_)) ?_; omega)
         refine hK.out _ _ ?_
         clear hK K
         refine done_ (done_of HT_.out (by kernel_rfl)) ?_
         try go_wp2
         go_roundg k2
         case measure => have := HK1.out; have := HK2.out; omega
         case rel => exact ⟨(y205), (wrap64 (x8_2 + 1)), (by first | rfl | (simp; done) | (simp [*]; done) | (refine congrArg (Value.int _) ?_; first | omega | (unfold wrap64; omega))), H', ⟨by have := HK1.out; have := HK2.out; omega⟩, ⟨by (try simp only [hl3_1]); (try simp only [hl4_1]); (with_reducible repeat (first | apply Kd.R_alloc | apply Kd.R_drewN | apply Kd.R_drew)); exact Kd.R_mono (Kd.R_far (p := ⟨go68, (x8_2 : Int).toNat, none⟩) (Kd.R_types HO_3.out GG68.out (by decide)) (fun _ hk => hk.2) (.int .u32 (((((rd x7_2 (ji60)) + (Go.bits .xor .u32 (Go.bits .xor .u32 t194 t196) ((rd x7_2 (ji50)) / 8))) + (rd x7_2 (ji63))) + (Go.bits .xor .u32 (Go.bits .xor .u32 t199 t201) ((rd x7_2 (ji55)) / 1024))) % 4294967296))) (fun _ hk => trivial)⟩, ⟨by (try simp only [hl3_1]); (try simp only [hl4_1]); (with_reducible repeat (first | apply Kd.R_alloc | apply Kd.R_drewN | apply Kd.R_drew)); exact Kd.R_mono (Kd.R_far (p := ⟨go68, (x8_2 : Int).toNat, none⟩) (Kd.R_mono HO_4.out (fun k_ hk => (⟨hk, fun e_ => hk (by rw [e_]; rfl)⟩ : _ ∧ k_ ≠ go68))) (fun _ hk => hk.2) (.int .u32 (((((rd x7_2 (ji60)) + (Go.bits .xor .u32 (Go.bits .xor .u32 t194 t196) ((rd x7_2 (ji50)) / 8))) + (rd x7_2 (ji63))) + (Go.bits .xor .u32 (Go.bits .xor .u32 t199 t201) ((rd x7_2 (ji55)) / 1024))) % 4294967296))) (fun _ hk => hk.1)⟩, ⟨by (try simp only [hl3_1]); (try simp only [hl4_1]); (with_reducible repeat (first | apply Kd.R_alloc | apply Kd.R_drewN | apply Kd.R_drew)); exact HQ73.out⟩, ⟨by repeat (first | (with_reducible first | exact HB.out | apply lA_ | apply lN_ | apply lD_ | refine lS_ ?_ GB68.out) | exact HB.out)⟩⟩
        ·rw [if_neg c49] at H
         exact absurd H (by simp)
        ⟩
        exact inferInstanceAs _
       ⟩
       exact inferInstanceAs _
      refine Nonempty.elim ?gc25n id
      letI i_ : type_of% ?gc25n := ⟨by
      rw [if_neg c25] at H
      have c25b0 : decide (x8_2 < 64) = false := decide_eq_false c25
      (try (have c25b7 := c25b0; simp only [hl3_1, hl4_1] at c25b7))
      clear c25
      by_cases c74 : x3_1.length = 8
      ·rw [if_pos c74] at H
       have c74b0 := eq_true c74
       have c74b1 : decide (x3_1.length = 8) = true := decide_eq_true c74
       clear c74
       by_cases c75 : 0 < (x3_1.length : Int)
       rotate_left
       ·rw [if_neg c75] at H
        exact absurd H (by simp)
       rw [if_pos c75] at H
       have c75b0 : decide (0 < (x3_1.length : Int)) = true := decide_eq_true c75
       have c75b1 : decide (0 < x3_1.length) = true := decide_eq_true (by omega)
       (try (have c75b7 := c75b0; simp only [hl3_1, hl4_1] at c75b7))
       (try (have c75b8 := c75b1; simp only [hl3_1, hl4_1] at c75b8))
       clear c75
       by_cases c76 : 1 < (x3_1.length : Int)
       rotate_left
       ·rw [if_neg c76] at H
        exact absurd H (by simp)
       rw [if_pos c76] at H
       have c76b0 : decide (1 < (x3_1.length : Int)) = true := decide_eq_true c76
       have c76b1 : decide (1 < x3_1.length) = true := decide_eq_true (by omega)
       (try (have c76b7 := c76b0; simp only [hl3_1, hl4_1] at c76b7))
       (try (have c76b8 := c76b1; simp only [hl3_1, hl4_1] at c76b8))
       clear c76
       by_cases c77 : 2 < (x3_1.length : Int)
       rotate_left
       ·rw [if_neg c77] at H
        exact absurd H (by simp)
       rw [if_pos c77] at H
       have c77b0 : decide (2 < (x3_1.length : Int)) = true := decide_eq_true c77
       have c77b1 : decide (2 < x3_1.length) = true := decide_eq_true (by omega)
       (try (have c77b7 := c77b0; simp only [hl3_1, hl4_1] at c77b7))
       (try (have c77b8 := c77b1; simp only [hl3_1, hl4_1] at c77b8))
       clear c77
       by_cases c78 : 3 < (x3_1.length : Int)
       rotate_left
       ·rw [if_neg c78] at H
        exact absurd H (by simp)
       rw [if_pos c78] at H
       have c78b0 : decide (3 < (x3_1.length : Int)) = true := decide_eq_true c78
       have c78b1 : decide (3 < x3_1.length) = true := decide_eq_true (by omega)
       (try (have c78b7 := c78b0; simp only [hl3_1, hl4_1] at c78b7))
       (try (have c78b8 := c78b1; simp only [hl3_1, hl4_1] at c78b8))
       clear c78
       by_cases c79 : 4 < (x3_1.length : Int)
       rotate_left
       ·rw [if_neg c79] at H
        exact absurd H (by simp)
       rw [if_pos c79] at H
       have c79b0 : decide (4 < (x3_1.length : Int)) = true := decide_eq_true c79
       have c79b1 : decide (4 < x3_1.length) = true := decide_eq_true (by omega)
       (try (have c79b7 := c79b0; simp only [hl3_1, hl4_1] at c79b7))
       (try (have c79b8 := c79b1; simp only [hl3_1, hl4_1] at c79b8))
       clear c79
       by_cases c80 : 5 < (x3_1.length : Int)
       rotate_left
       ·rw [if_neg c80] at H
        exact absurd H (by simp)
       rw [if_pos c80] at H
       have c80b0 : decide (5 < (x3_1.length : Int)) = true := decide_eq_true c80
       have c80b1 : decide (5 < x3_1.length) = true := decide_eq_true (by omega)
       (try (have c80b7 := c80b0; simp only [hl3_1, hl4_1] at c80b7))
       (try (have c80b8 := c80b1; simp only [hl3_1, hl4_1] at c80b8))
       clear c80
       by_cases c81 : 6 < (x3_1.length : Int)
       rotate_left
       ·rw [if_neg c81] at H
        exact absurd H (by simp)
       rw [if_pos c81] at H
       have c81b0 : decide (6 < (x3_1.length : Int)) = true := decide_eq_true c81
       have c81b1 : decide (6 < x3_1.length) = true := decide_eq_true (by omega)
       (try (have c81b7 := c81b0; simp only [hl3_1, hl4_1] at c81b7))
       (try (have c81b8 := c81b1; simp only [hl3_1, hl4_1] at c81b8))
       clear c81
       by_cases c82 : 7 < (x3_1.length : Int)
       rotate_left
       ·rw [if_neg c82] at H
        exact absurd H (by simp)
       rw [if_pos c82] at H
       have c82b0 : decide (7 < (x3_1.length : Int)) = true := decide_eq_true c82
       have c82b1 : decide (7 < x3_1.length) = true := decide_eq_true (by omega)
       (try (have c82b7 := c82b0; simp only [hl3_1, hl4_1] at c82b7))
       (try (have c82b8 := c82b1; simp only [hl3_1, hl4_1] at c82b8))
       clear c82
       have H' := Aside0.mk H
       clear H
       try go_wp2
       have n0_ := Aside0.mk (Kd.R_drew HO_3.out)
       have n1_ := Aside0.mk (Kd.R_drew HO_4.out)
       have n2_ := Aside0.mk (Kd.R_drew HO_7.out)
       have n3_ := Aside0.mk (below_drew1 HB.out)
       clear HO_3
       clear HO_4
       clear HO_7
       clear HB
       have HO_3 := n0_
       have HO_4 := n1_
       have HO_7 := n2_
       have HB := n3_
       clear n0_ n1_ n2_ n3_
       have qa206 : ((0 : Int) < (8 : Int)) = True := eq_true (by have e_ : x3_1.length = 8 := od_ (by assumption); have h_ : (0 : Int) < ((x3_1.length : Int) : Int) := od_ (by assumption); omega)
       have p206 : 0 ≤ (0 : Int) := (by omega)
       have q206 : 0 < (x3_1.length : Int) := od_ (by assumption)
       obtain ⟨ad206, e206, hx206_0⟩ := Kd.at_int (Kd.R_reads' HO_3.out).2.2 0 p206 q206
       obtain rfl : (⟨go5, 0, none⟩ : Addr) = ad206 := (by injection e206)
       (first | simp only [add_plain] at hx206_0 | simp only [add_at] at hx206_0 | simp only [Addr.add, Nat.zero_add] at hx206_0 | skip)
       have qi206 : (0 < x3_1.length) = True := eq_true (by omega)
       (try rw [show ((0 : Int)).toNat = 0 from rfl] at hx206_0)
       (try rw [Addr.add_zero'] at hx206_0)
       replace p206 := eq_true p206
       replace q206 := eq_true q206
       have qa207 : ((1 : Int) < (8 : Int)) = True := eq_true (by have e_ : x3_1.length = 8 := od_ (by assumption); have h_ : (1 : Int) < ((x3_1.length : Int) : Int) := od_ (by assumption); omega)
       have p207 : 0 ≤ (1 : Int) := (by omega)
       have q207 : 1 < (x3_1.length : Int) := od_ (by assumption)
       obtain ⟨ad207, e207, hx207_0⟩ := Kd.at_int (Kd.R_reads' HO_3.out).2.2 1 p207 q207
       obtain rfl : (⟨go5, 0, none⟩ : Addr) = ad207 := (by injection e207)
       (first | simp only [add_plain] at hx207_0 | simp only [add_at] at hx207_0 | simp only [Addr.add, Nat.zero_add] at hx207_0 | skip)
       have qi207 : (1 < x3_1.length) = True := eq_true (by omega)
       (try rw [show ((1 : Int)).toNat = 1 from rfl] at hx207_0)
       replace p207 := eq_true p207
       replace q207 := eq_true q207
       have qa208 : ((2 : Int) < (8 : Int)) = True := eq_true (by have e_ : x3_1.length = 8 := od_ (by assumption); have h_ : (2 : Int) < ((x3_1.length : Int) : Int) := od_ (by assumption); omega)
       have p208 : 0 ≤ (2 : Int) := (by omega)
       have q208 : 2 < (x3_1.length : Int) := od_ (by assumption)
       obtain ⟨ad208, e208, hx208_0⟩ := Kd.at_int (Kd.R_reads' HO_3.out).2.2 2 p208 q208
       obtain rfl : (⟨go5, 0, none⟩ : Addr) = ad208 := (by injection e208)
       (first | simp only [add_plain] at hx208_0 | simp only [add_at] at hx208_0 | simp only [Addr.add, Nat.zero_add] at hx208_0 | skip)
       have qi208 : (2 < x3_1.length) = True := eq_true (by omega)
       (try rw [show ((2 : Int)).toNat = 2 from rfl] at hx208_0)
       replace p208 := eq_true p208
       replace q208 := eq_true q208
       have qa209 : ((3 : Int) < (8 : Int)) = True := eq_true (by have e_ : x3_1.length = 8 := od_ (by assumption); have h_ : (3 : Int) < ((x3_1.length : Int) : Int) := od_ (by assumption); omega)
       have p209 : 0 ≤ (3 : Int) := (by omega)
       have q209 : 3 < (x3_1.length : Int) := od_ (by assumption)
       obtain ⟨ad209, e209, hx209_0⟩ := Kd.at_int (Kd.R_reads' HO_3.out).2.2 3 p209 q209
       obtain rfl : (⟨go5, 0, none⟩ : Addr) = ad209 := (by injection e209)
       (first | simp only [add_plain] at hx209_0 | simp only [add_at] at hx209_0 | simp only [Addr.add, Nat.zero_add] at hx209_0 | skip)
       have qi209 : (3 < x3_1.length) = True := eq_true (by omega)
       (try rw [show ((3 : Int)).toNat = 3 from rfl] at hx209_0)
       replace p209 := eq_true p209
       replace q209 := eq_true q209
       have qa210 : ((4 : Int) < (8 : Int)) = True := eq_true (by have e_ : x3_1.length = 8 := od_ (by assumption); have h_ : (4 : Int) < ((x3_1.length : Int) : Int) := od_ (by assumption); omega)
       have p210 : 0 ≤ (4 : Int) := (by omega)
       have q210 : 4 < (x3_1.length : Int) := od_ (by assumption)
       obtain ⟨ad210, e210, hx210_0⟩ := Kd.at_int (Kd.R_reads' HO_3.out).2.2 4 p210 q210
       obtain rfl : (⟨go5, 0, none⟩ : Addr) = ad210 := (by injection e210)
       (first | simp only [add_plain] at hx210_0 | simp only [add_at] at hx210_0 | simp only [Addr.add, Nat.zero_add] at hx210_0 | skip)
       have qi210 : (4 < x3_1.length) = True := eq_true (by omega)
       (try rw [show ((4 : Int)).toNat = 4 from rfl] at hx210_0)
       replace p210 := eq_true p210
       replace q210 := eq_true q210
       have qa211 : ((5 : Int) < (8 : Int)) = True := eq_true (by have e_ : x3_1.length = 8 := od_ (by assumption); have h_ : (5 : Int) < ((x3_1.length : Int) : Int) := od_ (by assumption); omega)
       have p211 : 0 ≤ (5 : Int) := (by omega)
       have q211 : 5 < (x3_1.length : Int) := od_ (by assumption)
       obtain ⟨ad211, e211, hx211_0⟩ := Kd.at_int (Kd.R_reads' HO_3.out).2.2 5 p211 q211
       obtain rfl : (⟨go5, 0, none⟩ : Addr) = ad211 := (by injection e211)
       (first | simp only [add_plain] at hx211_0 | simp only [add_at] at hx211_0 | simp only [Addr.add, Nat.zero_add] at hx211_0 | skip)
       have qi211 : (5 < x3_1.length) = True := eq_true (by omega)
       (try rw [show ((5 : Int)).toNat = 5 from rfl] at hx211_0)
       replace p211 := eq_true p211
       replace q211 := eq_true q211
       have qa212 : ((6 : Int) < (8 : Int)) = True := eq_true (by have e_ : x3_1.length = 8 := od_ (by assumption); have h_ : (6 : Int) < ((x3_1.length : Int) : Int) := od_ (by assumption); omega)
       have p212 : 0 ≤ (6 : Int) := (by omega)
       have q212 : 6 < (x3_1.length : Int) := od_ (by assumption)
       obtain ⟨ad212, e212, hx212_0⟩ := Kd.at_int (Kd.R_reads' HO_3.out).2.2 6 p212 q212
       obtain rfl : (⟨go5, 0, none⟩ : Addr) = ad212 := (by injection e212)
       (first | simp only [add_plain] at hx212_0 | simp only [add_at] at hx212_0 | simp only [Addr.add, Nat.zero_add] at hx212_0 | skip)
       have qi212 : (6 < x3_1.length) = True := eq_true (by omega)
       (try rw [show ((6 : Int)).toNat = 6 from rfl] at hx212_0)
       replace p212 := eq_true p212
       replace q212 := eq_true q212
       have qa213 : ((7 : Int) < (8 : Int)) = True := eq_true (by have e_ : x3_1.length = 8 := od_ (by assumption); have h_ : (7 : Int) < ((x3_1.length : Int) : Int) := od_ (by assumption); omega)
       have p213 : 0 ≤ (7 : Int) := (by omega)
       have q213 : 7 < (x3_1.length : Int) := od_ (by assumption)
       obtain ⟨ad213, e213, hx213_0⟩ := Kd.at_int (Kd.R_reads' HO_3.out).2.2 7 p213 q213
       obtain rfl : (⟨go5, 0, none⟩ : Addr) = ad213 := (by injection e213)
       (first | simp only [add_plain] at hx213_0 | simp only [add_at] at hx213_0 | simp only [Addr.add, Nat.zero_add] at hx213_0 | skip)
       have qi213 : (7 < x3_1.length) = True := eq_true (by omega)
       (try rw [show ((7 : Int)).toNat = 7 from rfl] at hx213_0)
       replace p213 := eq_true p213
       replace q213 := eq_true q213
       refine start_ (n := 24) (S := fun w' => w'.cell? ⟨go5, 0, none⟩ = some (.int .u32 (rd x3_1 0)) ∧ w'.cell? ⟨go5, 1, none⟩ = some (.int .u32 (rd x3_1 1)) ∧ w'.cell? ⟨go5, 2, none⟩ = some (.int .u32 (rd x3_1 2)) ∧ w'.cell? ⟨go5, 3, none⟩ = some (.int .u32 (rd x3_1 3)) ∧ w'.cell? ⟨go5, 4, none⟩ = some (.int .u32 (rd x3_1 4)) ∧ w'.cell? ⟨go5, 5, none⟩ = some (.int .u32 (rd x3_1 5)) ∧ w'.cell? ⟨go5, 6, none⟩ = some (.int .u32 (rd x3_1 6)) ∧ w'.cell? ⟨go5, 7, none⟩ = some (.int .u32 (rd x3_1 7))) (ds := []) #[false, false, false, false, false, false, false, false, false, false, false, false, false, false, false, false, false, false, false, false, false, false, false, false] (by kernel_rfl) rfl rfl ⟨hx206_0, hx207_0, hx208_0, hx209_0, hx210_0, hx211_0, hx212_0, hx213_0⟩ (fun hHeld => ?_); refine with_tabW palaverref02_Sum.tab16 palaverref02_Sum.bits16 (fun HT_ HW_ => ?_)
       generalize wr.drew = w83 at HO_3 HO_4 HO_7 HB hx206_0 hx207_0 hx208_0 hx209_0 hx210_0 hx211_0 hx212_0 hx213_0 hHeld ⊢
       refine runs_ [(0, some 134), (2, some 136), (4, some 138), (6, some 140), (8, some 142), (10, some 144), (12, some 146), (14, some 148)] ?_
       iterate 8 (refine pureL_ (v := ?_) (a' := ?_) rfl rfl (any_of HT_.out (by kernel_rfl)) (Or.inl ⟨by rfl, ?_⟩) ?_ ?_ (fun _ _ _ h => h); rotate_left; (intro w'; go_simp; with_reducible rfl); rotate_left; (simp only [pr_]; rfl))
       refine runsE_ ?_
       refine take_ (i := 1) (N := some 135) (v := ?_) (a' := ?_) #[true, true, true, false, true, false, true, false, true, false, true, false, true, false, true, false, false, false, false, false, false, false, false, false] rfl rfl (take_ofW HT_.out HW_.out (by kernel_rfl)) (fun _ _ _ h => h) (Or.inl ⟨by rfl, ?_⟩) hHeld ?_ ?_
       rotate_left
       ·rintro w' ⟨s0, s1, s2, s3, s4, s5, s6, s7⟩
        go_simp
        with_reducible rfl
       rotate_left
       ·simp only [pr_]
        rfl
       refine pure_ (i := 16) (N := some 11) (v := ?_) (a' := ?_) #[true, true, true, false, true, false, true, false, true, false, true, false, true, false, true, false, true, false, false, false, false, false, false, false] rfl rfl (any_of HT_.out (by kernel_rfl)) (fun _ _ _ h => h) (Or.inl ⟨by rfl, ?_⟩) ?_ ?_
       rotate_left
       ·intro w'
        go_simp
        with_reducible rfl
       rotate_left
       ·simp only [pr_]
        rfl
       refine take_ (i := 3) (N := some 137) (v := ?_) (a' := ?_) #[true, true, true, true, true, false, true, false, true, false, true, false, true, false, true, false, true, false, false, false, false, false, false, false] rfl rfl (take_ofW HT_.out HW_.out (by kernel_rfl)) (fun _ _ _ h => h) (Or.inl ⟨by rfl, ?_⟩) hHeld ?_ ?_
       rotate_left
       ·rintro w' ⟨s0, s1, s2, s3, s4, s5, s6, s7⟩
        go_simp
        with_reducible rfl
       rotate_left
       ·simp only [pr_]
        rfl
       refine pure_ (i := 17) (N := some 12) (v := ?_) (a' := ?_) #[true, true, true, true, true, false, true, false, true, false, true, false, true, false, true, false, true, true, false, false, false, false, false, false] rfl rfl (any_of HT_.out (by kernel_rfl)) (fun _ _ _ h => h) (Or.inl ⟨by rfl, ?_⟩) ?_ ?_
       rotate_left
       ·intro w'
        go_simp
        with_reducible rfl
       rotate_left
       ·simp only [pr_]
        rfl
       refine take_ (i := 5) (N := some 139) (v := ?_) (a' := ?_) #[true, true, true, true, true, true, true, false, true, false, true, false, true, false, true, false, true, true, false, false, false, false, false, false] rfl rfl (take_ofW HT_.out HW_.out (by kernel_rfl)) (fun _ _ _ h => h) (Or.inl ⟨by rfl, ?_⟩) hHeld ?_ ?_
       rotate_left
       ·rintro w' ⟨s0, s1, s2, s3, s4, s5, s6, s7⟩
        go_simp
        with_reducible rfl
       rotate_left
       ·simp only [pr_]
        rfl
       refine pure_ (i := 18) (N := some 13) (v := ?_) (a' := ?_) #[true, true, true, true, true, true, true, false, true, false, true, false, true, false, true, false, true, true, true, false, false, false, false, false] rfl rfl (any_of HT_.out (by kernel_rfl)) (fun _ _ _ h => h) (Or.inl ⟨by rfl, ?_⟩) ?_ ?_
       rotate_left
       ·intro w'
        go_simp
        with_reducible rfl
       rotate_left
       ·simp only [pr_]
        rfl
       refine take_ (i := 7) (N := some 141) (v := ?_) (a' := ?_) #[true, true, true, true, true, true, true, true, true, false, true, false, true, false, true, false, true, true, true, false, false, false, false, false] rfl rfl (take_ofW HT_.out HW_.out (by kernel_rfl)) (fun _ _ _ h => h) (Or.inl ⟨by rfl, ?_⟩) hHeld ?_ ?_
       rotate_left
       ·rintro w' ⟨s0, s1, s2, s3, s4, s5, s6, s7⟩
        go_simp
        with_reducible rfl
       rotate_left
       ·simp only [pr_]
        rfl
       refine pure_ (i := 19) (N := some 14) (v := ?_) (a' := ?_) #[true, true, true, true, true, true, true, true, true, false, true, false, true, false, true, false, true, true, true, true, false, false, false, false] rfl rfl (any_of HT_.out (by kernel_rfl)) (fun _ _ _ h => h) (Or.inl ⟨by rfl, ?_⟩) ?_ ?_
       rotate_left
       ·intro w'
        go_simp
        with_reducible rfl
       rotate_left
       ·simp only [pr_]
        rfl
       refine take_ (i := 9) (N := some 143) (v := ?_) (a' := ?_) #[true, true, true, true, true, true, true, true, true, true, true, false, true, false, true, false, true, true, true, true, false, false, false, false] rfl rfl (take_ofW HT_.out HW_.out (by kernel_rfl)) (fun _ _ _ h => h) (Or.inl ⟨by rfl, ?_⟩) hHeld ?_ ?_
       rotate_left
       ·rintro w' ⟨s0, s1, s2, s3, s4, s5, s6, s7⟩
        go_simp
        with_reducible rfl
       rotate_left
       ·simp only [pr_]
        rfl
       refine pure_ (i := 20) (N := some 15) (v := ?_) (a' := ?_) #[true, true, true, true, true, true, true, true, true, true, true, false, true, false, true, false, true, true, true, true, true, false, false, false] rfl rfl (any_of HT_.out (by kernel_rfl)) (fun _ _ _ h => h) (Or.inl ⟨by rfl, ?_⟩) ?_ ?_
       rotate_left
       ·intro w'
        go_simp
        with_reducible rfl
       rotate_left
       ·simp only [pr_]
        rfl
       refine take_ (i := 11) (N := some 145) (v := ?_) (a' := ?_) #[true, true, true, true, true, true, true, true, true, true, true, true, true, false, true, false, true, true, true, true, true, false, false, false] rfl rfl (take_ofW HT_.out HW_.out (by kernel_rfl)) (fun _ _ _ h => h) (Or.inl ⟨by rfl, ?_⟩) hHeld ?_ ?_
       rotate_left
       ·rintro w' ⟨s0, s1, s2, s3, s4, s5, s6, s7⟩
        go_simp
        with_reducible rfl
       rotate_left
       ·simp only [pr_]
        rfl
       refine pure_ (i := 21) (N := some 16) (v := ?_) (a' := ?_) #[true, true, true, true, true, true, true, true, true, true, true, true, true, false, true, false, true, true, true, true, true, true, false, false] rfl rfl (any_of HT_.out (by kernel_rfl)) (fun _ _ _ h => h) (Or.inl ⟨by rfl, ?_⟩) ?_ ?_
       rotate_left
       ·intro w'
        go_simp
        with_reducible rfl
       rotate_left
       ·simp only [pr_]
        rfl
       refine take_ (i := 13) (N := some 147) (v := ?_) (a' := ?_) #[true, true, true, true, true, true, true, true, true, true, true, true, true, true, true, false, true, true, true, true, true, true, false, false] rfl rfl (take_ofW HT_.out HW_.out (by kernel_rfl)) (fun _ _ _ h => h) (Or.inl ⟨by rfl, ?_⟩) hHeld ?_ ?_
       rotate_left
       ·rintro w' ⟨s0, s1, s2, s3, s4, s5, s6, s7⟩
        go_simp
        with_reducible rfl
       rotate_left
       ·simp only [pr_]
        rfl
       refine pure_ (i := 22) (N := some 17) (v := ?_) (a' := ?_) #[true, true, true, true, true, true, true, true, true, true, true, true, true, true, true, false, true, true, true, true, true, true, true, false] rfl rfl (any_of HT_.out (by kernel_rfl)) (fun _ _ _ h => h) (Or.inl ⟨by rfl, ?_⟩) ?_ ?_
       rotate_left
       ·intro w'
        go_simp
        with_reducible rfl
       rotate_left
       ·simp only [pr_]
        rfl
       refine take_ (i := 15) (N := some 149) (v := ?_) (a' := ?_) #[true, true, true, true, true, true, true, true, true, true, true, true, true, true, true, true, true, true, true, true, true, true, true, false] rfl rfl (take_ofW HT_.out HW_.out (by kernel_rfl)) (fun _ _ _ h => h) (Or.inl ⟨by rfl, ?_⟩) hHeld ?_ ?_
       rotate_left
       ·rintro w' ⟨s0, s1, s2, s3, s4, s5, s6, s7⟩
        go_simp
        with_reducible rfl
       rotate_left
       ·simp only [pr_]
        rfl
       refine pure_ (i := 23) (N := some 18) (v := ?_) (a' := ?_) #[true, true, true, true, true, true, true, true, true, true, true, true, true, true, true, true, true, true, true, true, true, true, true, true] rfl rfl (any_of HT_.out (by kernel_rfl)) (fun _ _ _ h => h) (Or.inl ⟨by rfl, ?_⟩) ?_ ?_
       rotate_left
       ·intro w'
        go_simp
        with_reducible rfl
       rotate_left
       ·simp only [pr_]
        rfl
       refine done_ (done_of HT_.out (by kernel_rfl)) ?_
       try go_wp2
       go_loopg [11, 12, 13, 14, 15, 16, 17, 18, 19] k2 (fun kq v11 v12 v13 v14 v15 v16 v17 v18 v19 w' => ∃ (x11_3 : Int) (x12_3 : Int) (x13_3 : Int) (x14_3 : Int) (x15_3 : Int) (x16_3 : Int) (x17_3 : Int) (x18_3 : Int) (x19_3 : Int), v11 = .int .u32 x11_3 ∧ v12 = .int .u32 x12_3 ∧ v13 = .int .u32 x13_3 ∧ v14 = .int .u32 x14_3 ∧ v15 = .int .u32 x15_3 ∧ v16 = .int .u32 x16_3 ∧ v17 = .int .u32 x17_3 ∧ v18 = .int .u32 x18_3 ∧ v19 = .int .i64 x19_3 ∧ Aside0 (palaverref02_Sum.l2 kq x3_1 x4_1 t188 x6_1 x7_2 x11_3 x12_3 x13_3 x14_3 x15_3 x16_3 x17_3 x18_3 x19_3 = some r) ∧ Aside0 (kq ≤ k2) ∧ Aside0 (Kd.R (Kd.int .u32) 105 w' w.heap.size (fun _ => True) (.slice (some ⟨go5, 0, none⟩) x3_1.length co5) x3_1) ∧ Aside0 (Kd.R (Kd.int .u32) 113 w' w.heap.size (fun k_ => some k_ ≠ (v190 : Value).ownBlock) (.slice (some ⟨go9, 0, none⟩) x4_1.length co9) x4_1) ∧ Aside0 (Kd.R (Kd.int .u32) 113 w' w.heap.size (fun k_ => some k_ ≠ ((.slice (some ⟨go9, 0, none⟩) x4_1.length co9) : Value).ownBlock) v190 x7_2) ∧ Aside0 (Below w.heap.size w w'))
       case atStart => exact ⟨(rd x3_1 0), (rd x3_1 1), (rd x3_1 2), (rd x3_1 3), (rd x3_1 4), (rd x3_1 5), (rd x3_1 6), (rd x3_1 7), (0), (by first | rfl | (simp; done) | (simp [*]; done) | (refine congrArg (Value.int _) ?_; first | omega | (unfold wrap64; omega))), (by first | rfl | (simp; done) | (simp [*]; done) | (refine congrArg (Value.int _) ?_; first | omega | (unfold wrap64; omega))), (by first | rfl | (simp; done) | (simp [*]; done) | (refine congrArg (Value.int _) ?_; first | omega | (unfold wrap64; omega))), (by first | rfl | (simp; done) | (simp [*]; done) | (refine congrArg (Value.int _) ?_; first | omega | (unfold wrap64; omega))), (by first | rfl | (simp; done) | (simp [*]; done) | (refine congrArg (Value.int _) ?_; first | omega | (unfold wrap64; omega))), (by first | rfl | (simp; done) | (simp [*]; done) | (refine congrArg (Value.int _) ?_; first | omega | (unfold wrap64; omega))), (by first | rfl | (simp; done) | (simp [*]; done) | (refine congrArg (Value.int _) ?_; first | omega | (unfold wrap64; omega))), (by first | rfl | (simp; done) | (simp [*]; done) | (refine congrArg (Value.int _) ?_; first | omega | (unfold wrap64; omega))), (by first | rfl | (simp; done) | (simp [*]; done) | (refine congrArg (Value.int _) ?_; first | omega | (unfold wrap64; omega))), H', ⟨Nat.le_refl _⟩, ⟨by (try simp only [hl3_1]); (try simp only [hl4_1]); (with_reducible repeat (first | apply Kd.R_alloc | apply Kd.R_drewN | apply Kd.R_drew)); exact HO_3.out⟩, ⟨by (try simp only [hl3_1]); (try simp only [hl4_1]); (with_reducible repeat (first | apply Kd.R_alloc | apply Kd.R_drewN | apply Kd.R_drew)); exact HO_4.out⟩, ⟨by (try simp only [hl3_1]); (try simp only [hl4_1]); (with_reducible repeat (first | apply Kd.R_alloc | apply Kd.R_drewN | apply Kd.R_drew)); exact HO_7.out⟩, ⟨by repeat (first | (with_reducible first | exact HB.out | apply lA_ | apply lN_ | apply lD_) | exact HB.out)⟩⟩
       case round =>
        clear H'
        (try clear hx1); (try clear c2); (try clear p2); (try clear q2); (try clear hx2); (try clear qi2); (try clear c4); (try clear c5); (try clear c6); (try clear p6); (try clear q6); (try clear hx6); (try clear hf6); (try clear c7); (try clear c8); (try clear hx19); (try clear p20); (try clear q20); (try clear hx20); (try clear qi20); (try clear p21); (try clear q21); (try clear hx21); (try clear qi21); (try clear c25); (try clear c25b0); (try clear c25b7); (try clear c49); (try clear c51); (try clear c52); (try clear c56); (try clear c57); (try clear c61); (try clear c62); (try clear c64); (try clear p64); (try clear c65); (try clear c66); (try clear c67); (try clear p68); (try clear q68); (try clear hx68); (try clear hf68); (try clear c74); (try clear c74b0); (try clear c74b1); (try clear c75); (try clear c75b0); (try clear c75b1); (try clear c75b7); (try clear c75b8); (try clear c76); (try clear c76b0); (try clear c76b1); (try clear c76b7); (try clear c76b8); (try clear c77); (try clear c77b0); (try clear c77b1); (try clear c77b7); (try clear c77b8); (try clear c78); (try clear c78b0); (try clear c78b1); (try clear c78b7); (try clear c78b8); (try clear c79); (try clear c79b0); (try clear c79b1); (try clear c79b7); (try clear c79b8); (try clear c80); (try clear c80b0); (try clear c80b1); (try clear c80b7); (try clear c80b8); (try clear c81); (try clear c81b0); (try clear c81b1); (try clear c81b7); (try clear c81b8); (try clear c82); (try clear c82b0); (try clear c82b1); (try clear c82b7); (try clear c82b8); (try clear hx193_0); (try clear hx195_0); (try clear hx197_0); (try clear hx198_0); (try clear hx200_0); (try clear hx202_0); (try clear hx203_0); (try clear hx204_0); (try clear hx206_0); (try clear hx207_0); (try clear hx208_0); (try clear hx209_0); (try clear hx210_0); (try clear hx211_0); (try clear hx212_0); (try clear hx213_0); (try clear hx68_0); (try clear p203); (try clear p204); (try clear p206); (try clear p207); (try clear p208); (try clear p209); (try clear p210); (try clear p211); (try clear p212); (try clear p213); (try clear p68); (try clear q203); (try clear q204); (try clear q206); (try clear q207); (try clear q208); (try clear q209); (try clear q210); (try clear q211); (try clear q212); (try clear q213); (try clear q68)
        obtain ⟨x11_3, x12_3, x13_3, x14_3, x15_3, x16_3, x17_3, x18_3, x19_3, rfl, rfl, rfl, rfl, rfl, rfl, rfl, rfl, rfl, HA, HK3, HO_3, HO_4, HO_7, HB⟩ := hrel
        cases gk with
        | zero => exact absurd HA.out (by simp [palaverref02_Sum.l2])
        | succ k3 =>
         have H := HA.out
         clear HA
         simp only [palaverref02_Sum.l2] at H
         by_cases c84 : x19_3 < 64
         ·refine Nonempty.elim ?gc84p id
          letI i_ : type_of% ?gc84p := ⟨by
          rw [if_pos c84] at H
          have c84b0 : decide (x19_3 < 64) = true := decide_eq_true c84
          (try (have c84b7 := c84b0; simp only [hl3_1, hl4_1] at c84b7))
          clear c84
          replace H := ob_ H
          obtain ⟨t214, A850, H⟩ := H
          replace H : ((palaverref02_turn.f x15_3 11).bind fun t215 => ((palaverref02_turn.f x15_3 25).bind fun t216 => (if x4_1.length = 64 then (if 0 ≤ x19_3 then (if x19_3 < (x4_1.length : Int) then (if x7_2.length = 64 then (if x19_3 < (x7_2.length : Int) then ((palaverref02_turn.f x11_3 2).bind fun t219 => ((palaverref02_turn.f x11_3 13).bind fun t220 => ((palaverref02_turn.f x11_3 22).bind fun t221 => (palaverref02_Sum.l2 k3 x3_1 x4_1 t188 x6_1 x7_2 ((((((x18_3 + (Go.bits .xor .u32 (Go.bits .xor .u32 t214 t215) t216)) + (Go.bits .xor .u32 (Go.bits .and .u32 x15_3 x16_3) (Go.bits .and .u32 (Go.bits .xor .u32 4294967295 x15_3) x17_3))) + (rd x4_1 x19_3)) + (rd x7_2 x19_3)) + ((Go.bits .xor .u32 (Go.bits .xor .u32 t219 t220) t221) + (Go.bits .xor .u32 (Go.bits .xor .u32 (Go.bits .and .u32 x11_3 x12_3) (Go.bits .and .u32 x11_3 x13_3)) (Go.bits .and .u32 x12_3 x13_3)))) % 4294967296) x11_3 x12_3 x13_3 ((x14_3 + ((((x18_3 + (Go.bits .xor .u32 (Go.bits .xor .u32 t214 t215) t216)) + (Go.bits .xor .u32 (Go.bits .and .u32 x15_3 x16_3) (Go.bits .and .u32 (Go.bits .xor .u32 4294967295 x15_3) x17_3))) + (rd x4_1 x19_3)) + (rd x7_2 x19_3))) % 4294967296) x15_3 x16_3 x17_3 (wrap64 (x19_3 + 1)))))) else (none)) else (none)) else (none)) else (none)) else (none)))) = some r := H
          have A85 := Aside0.mk A850
          clear A850
          replace H := ob_ H
          obtain ⟨t215, A860, H⟩ := H
          replace H : ((palaverref02_turn.f x15_3 25).bind fun t216 => (if x4_1.length = 64 then (if 0 ≤ x19_3 then (if x19_3 < (x4_1.length : Int) then (if x7_2.length = 64 then (if x19_3 < (x7_2.length : Int) then ((palaverref02_turn.f x11_3 2).bind fun t219 => ((palaverref02_turn.f x11_3 13).bind fun t220 => ((palaverref02_turn.f x11_3 22).bind fun t221 => (palaverref02_Sum.l2 k3 x3_1 x4_1 t188 x6_1 x7_2 ((((((x18_3 + (Go.bits .xor .u32 (Go.bits .xor .u32 t214 t215) t216)) + (Go.bits .xor .u32 (Go.bits .and .u32 x15_3 x16_3) (Go.bits .and .u32 (Go.bits .xor .u32 4294967295 x15_3) x17_3))) + (rd x4_1 x19_3)) + (rd x7_2 x19_3)) + ((Go.bits .xor .u32 (Go.bits .xor .u32 t219 t220) t221) + (Go.bits .xor .u32 (Go.bits .xor .u32 (Go.bits .and .u32 x11_3 x12_3) (Go.bits .and .u32 x11_3 x13_3)) (Go.bits .and .u32 x12_3 x13_3)))) % 4294967296) x11_3 x12_3 x13_3 ((x14_3 + ((((x18_3 + (Go.bits .xor .u32 (Go.bits .xor .u32 t214 t215) t216)) + (Go.bits .xor .u32 (Go.bits .and .u32 x15_3 x16_3) (Go.bits .and .u32 (Go.bits .xor .u32 4294967295 x15_3) x17_3))) + (rd x4_1 x19_3)) + (rd x7_2 x19_3))) % 4294967296) x15_3 x16_3 x17_3 (wrap64 (x19_3 + 1)))))) else (none)) else (none)) else (none)) else (none)) else (none))) = some r := H
          have A86 := Aside0.mk A860
          clear A860
          replace H := ob_ H
          obtain ⟨t216, A870, H⟩ := H
          replace H : (if x4_1.length = 64 then (if 0 ≤ x19_3 then (if x19_3 < (x4_1.length : Int) then (if x7_2.length = 64 then (if x19_3 < (x7_2.length : Int) then ((palaverref02_turn.f x11_3 2).bind fun t219 => ((palaverref02_turn.f x11_3 13).bind fun t220 => ((palaverref02_turn.f x11_3 22).bind fun t221 => (palaverref02_Sum.l2 k3 x3_1 x4_1 t188 x6_1 x7_2 ((((((x18_3 + (Go.bits .xor .u32 (Go.bits .xor .u32 t214 t215) t216)) + (Go.bits .xor .u32 (Go.bits .and .u32 x15_3 x16_3) (Go.bits .and .u32 (Go.bits .xor .u32 4294967295 x15_3) x17_3))) + (rd x4_1 x19_3)) + (rd x7_2 x19_3)) + ((Go.bits .xor .u32 (Go.bits .xor .u32 t219 t220) t221) + (Go.bits .xor .u32 (Go.bits .xor .u32 (Go.bits .and .u32 x11_3 x12_3) (Go.bits .and .u32 x11_3 x13_3)) (Go.bits .and .u32 x12_3 x13_3)))) % 4294967296) x11_3 x12_3 x13_3 ((x14_3 + ((((x18_3 + (Go.bits .xor .u32 (Go.bits .xor .u32 t214 t215) t216)) + (Go.bits .xor .u32 (Go.bits .and .u32 x15_3 x16_3) (Go.bits .and .u32 (Go.bits .xor .u32 4294967295 x15_3) x17_3))) + (rd x4_1 x19_3)) + (rd x7_2 x19_3))) % 4294967296) x15_3 x16_3 x17_3 (wrap64 (x19_3 + 1)))))) else (none)) else (none)) else (none)) else (none)) else (none)) = some r := H
          have A87 := Aside0.mk A870
          clear A870
          by_cases c88 : x4_1.length = 64
          ·rw [if_pos c88] at H
           have c88b0 := eq_true c88
           have c88b1 : decide (x4_1.length = 64) = true := decide_eq_true c88
           clear c88
           by_cases c89 : 0 ≤ x19_3
           rotate_left
           ·rw [if_neg c89] at H
            exact absurd H (by simp)
           rw [if_pos c89] at H
           have c89b0 : decide (0 ≤ x19_3) = true := decide_eq_true c89
           (try (have c89b7 := c89b0; simp only [hl3_1, hl4_1] at c89b7))
           clear c89
           by_cases c90 : x19_3 < (x4_1.length : Int)
           rotate_left
           ·rw [if_neg c90] at H
            exact absurd H (by simp)
           rw [if_pos c90] at H
           have c90b0 : decide (x19_3 < (x4_1.length : Int)) = true := decide_eq_true c90
           (try (have c90b7 := c90b0; simp only [hl3_1, hl4_1] at c90b7))
           clear c90
           by_cases c91 : x7_2.length = 64
           rotate_left
           ·rw [if_neg c91] at H
            exact absurd H (by simp)
           rw [if_pos c91] at H
           have c91b0 := eq_true c91
           have c91b1 : decide (x7_2.length = 64) = true := decide_eq_true c91
           clear c91
           by_cases c92 : x19_3 < (x7_2.length : Int)
           rotate_left
           ·rw [if_neg c92] at H
            exact absurd H (by simp)
           rw [if_pos c92] at H
           have c92b0 : decide (x19_3 < (x7_2.length : Int)) = true := decide_eq_true c92
           (try (have c92b7 := c92b0; simp only [hl3_1, hl4_1] at c92b7))
           clear c92
           replace H := ob_ H
           obtain ⟨t219, A930, H⟩ := H
           replace H : ((palaverref02_turn.f x11_3 13).bind fun t220 => ((palaverref02_turn.f x11_3 22).bind fun t221 => (palaverref02_Sum.l2 k3 x3_1 x4_1 t188 x6_1 x7_2 ((((((x18_3 + (Go.bits .xor .u32 (Go.bits .xor .u32 t214 t215) t216)) + (Go.bits .xor .u32 (Go.bits .and .u32 x15_3 x16_3) (Go.bits .and .u32 (Go.bits .xor .u32 4294967295 x15_3) x17_3))) + (rd x4_1 x19_3)) + (rd x7_2 x19_3)) + ((Go.bits .xor .u32 (Go.bits .xor .u32 t219 t220) t221) + (Go.bits .xor .u32 (Go.bits .xor .u32 (Go.bits .and .u32 x11_3 x12_3) (Go.bits .and .u32 x11_3 x13_3)) (Go.bits .and .u32 x12_3 x13_3)))) % 4294967296) x11_3 x12_3 x13_3 ((x14_3 + ((((x18_3 + (Go.bits .xor .u32 (Go.bits .xor .u32 t214 t215) t216)) + (Go.bits .xor .u32 (Go.bits .and .u32 x15_3 x16_3) (Go.bits .and .u32 (Go.bits .xor .u32 4294967295 x15_3) x17_3))) + (rd x4_1 x19_3)) + (rd x7_2 x19_3))) % 4294967296) x15_3 x16_3 x17_3 (wrap64 (x19_3 + 1))))) = some r := H
           have A93 := Aside0.mk A930
           clear A930
           replace H := ob_ H
           obtain ⟨t220, A940, H⟩ := H
           replace H : ((palaverref02_turn.f x11_3 22).bind fun t221 => (palaverref02_Sum.l2 k3 x3_1 x4_1 t188 x6_1 x7_2 ((((((x18_3 + (Go.bits .xor .u32 (Go.bits .xor .u32 t214 t215) t216)) + (Go.bits .xor .u32 (Go.bits .and .u32 x15_3 x16_3) (Go.bits .and .u32 (Go.bits .xor .u32 4294967295 x15_3) x17_3))) + (rd x4_1 x19_3)) + (rd x7_2 x19_3)) + ((Go.bits .xor .u32 (Go.bits .xor .u32 t219 t220) t221) + (Go.bits .xor .u32 (Go.bits .xor .u32 (Go.bits .and .u32 x11_3 x12_3) (Go.bits .and .u32 x11_3 x13_3)) (Go.bits .and .u32 x12_3 x13_3)))) % 4294967296) x11_3 x12_3 x13_3 ((x14_3 + ((((x18_3 + (Go.bits .xor .u32 (Go.bits .xor .u32 t214 t215) t216)) + (Go.bits .xor .u32 (Go.bits .and .u32 x15_3 x16_3) (Go.bits .and .u32 (Go.bits .xor .u32 4294967295 x15_3) x17_3))) + (rd x4_1 x19_3)) + (rd x7_2 x19_3))) % 4294967296) x15_3 x16_3 x17_3 (wrap64 (x19_3 + 1)))) = some r := H
           have A94 := Aside0.mk A940
           clear A940
           replace H := ob_ H
           obtain ⟨t221, A950, H⟩ := H
           replace H : (palaverref02_Sum.l2 k3 x3_1 x4_1 t188 x6_1 x7_2 ((((((x18_3 + (Go.bits .xor .u32 (Go.bits .xor .u32 t214 t215) t216)) + (Go.bits .xor .u32 (Go.bits .and .u32 x15_3 x16_3) (Go.bits .and .u32 (Go.bits .xor .u32 4294967295 x15_3) x17_3))) + (rd x4_1 x19_3)) + (rd x7_2 x19_3)) + ((Go.bits .xor .u32 (Go.bits .xor .u32 t219 t220) t221) + (Go.bits .xor .u32 (Go.bits .xor .u32 (Go.bits .and .u32 x11_3 x12_3) (Go.bits .and .u32 x11_3 x13_3)) (Go.bits .and .u32 x12_3 x13_3)))) % 4294967296) x11_3 x12_3 x13_3 ((x14_3 + ((((x18_3 + (Go.bits .xor .u32 (Go.bits .xor .u32 t214 t215) t216)) + (Go.bits .xor .u32 (Go.bits .and .u32 x15_3 x16_3) (Go.bits .and .u32 (Go.bits .xor .u32 4294967295 x15_3) x17_3))) + (rd x4_1 x19_3)) + (rd x7_2 x19_3))) % 4294967296) x15_3 x16_3 x17_3 (wrap64 (x19_3 + 1))) = some r := H
           have A95 := Aside0.mk A950
           clear A950
           have H' := Aside0.mk H
           clear H
           try go_wp2_with (first | ((with_reducible refine gate_callee (f := 79) rfl ?_); refine goesL_ (some 155) rfl rfl Tryd.func79 (by kernel_rfl) rfl #[.int .u32 x15_3, .int .u32 6] rfl (by (try simp only [gm_]); first | done | rfl | (simp only [gl_]; rfl)) ?_; (with_reducible refine (palaverref02_turn.calls x15_3 6 t214 _ A85.out).mono ?_); rintro e w' ⟨rfl, ⟨nd, rfl⟩⟩; refine ⟨_, rfl, ?_⟩) | ((with_reducible refine gate_callee (f := 79) rfl ?_); refine goesL_ (some 157) rfl rfl Tryd.func79 (by kernel_rfl) rfl #[.int .u32 x15_3, .int .u32 11] rfl (by (try simp only [gm_]); first | done | rfl | (simp only [gl_]; rfl)) ?_; (with_reducible refine (palaverref02_turn.calls x15_3 11 t215 _ A86.out).mono ?_); rintro e w' ⟨rfl, ⟨nd, rfl⟩⟩; refine ⟨_, rfl, ?_⟩) | ((with_reducible refine gate_callee (f := 79) rfl ?_); refine goesL_ (some 160) rfl rfl Tryd.func79 (by kernel_rfl) rfl #[.int .u32 x15_3, .int .u32 25] rfl (by (try simp only [gm_]); first | done | rfl | (simp only [gl_]; rfl)) ?_; (with_reducible refine (palaverref02_turn.calls x15_3 25 t216 _ A87.out).mono ?_); rintro e w' ⟨rfl, ⟨nd, rfl⟩⟩; refine ⟨_, rfl, ?_⟩))
           (try (rw [drewN_self wr]; generalize hq_ : World.drewN wr _ = wr; have n0_ : Aside0 (Kd.R (Kd.int .u32) 105 wr w.heap.size (fun _ => True) (.slice (some ⟨go5, 0, none⟩) x3_1.length co5) x3_1) := ⟨by rw [← hq_]; exact (by (with_reducible repeat (first | apply Kd.R_alloc | apply Kd.R_drewN | apply Kd.R_drew)); exact HO_3.out)⟩; have n1_ : Aside0 (Kd.R (Kd.int .u32) 113 wr w.heap.size (fun k_ => some k_ ≠ (v190 : Value).ownBlock) (.slice (some ⟨go9, 0, none⟩) x4_1.length co9) x4_1) := ⟨by rw [← hq_]; exact (by (with_reducible repeat (first | apply Kd.R_alloc | apply Kd.R_drewN | apply Kd.R_drew)); exact HO_4.out)⟩; have n2_ : Aside0 (Kd.R (Kd.int .u32) 113 wr w.heap.size (fun k_ => some k_ ≠ (.slice (some ⟨go9, 0, none⟩) x4_1.length co9 : Value).ownBlock) v190 x7_2) := ⟨by rw [← hq_]; exact (by (with_reducible repeat (first | apply Kd.R_alloc | apply Kd.R_drewN | apply Kd.R_drew)); exact HO_7.out)⟩; have n3_ : Aside0 (Below w.heap.size w wr) := ⟨by rw [← hq_]; exact (by repeat (first | (with_reducible first | exact HB.out | apply lA_ | apply lN_ | apply lD_) | exact HB.out))⟩; clear HO_3 HO_4 HO_7 HB hq_; have HO_3 := n0_; have HO_4 := n1_; have HO_7 := n2_; have HB := n3_; clear n0_ n1_ n2_ n3_))
           have n0_ := Aside0.mk (Kd.R_drew HO_3.out)
           have n1_ := Aside0.mk (Kd.R_drew HO_4.out)
           have n2_ := Aside0.mk (Kd.R_drew HO_7.out)
           have n3_ := Aside0.mk (below_drew1 HB.out)
           clear HO_3
           clear HO_4
           clear HO_7
           clear HB
           have HO_3 := n0_
           have HO_4 := n1_
           have HO_7 := n2_
           have HB := n3_
           clear n0_ n1_ n2_ n3_
           have qa217 : ((x19_3 : Int) < (64 : Int)) = True := eq_true (by have e_ : x4_1.length = 64 := od_ (by assumption); have h_ : (x19_3 : Int) < ((x4_1.length : Int) : Int) := od_ (by assumption); omega)
           have p217 : 0 ≤ (x19_3 : Int) := od_ (by assumption)
           have q217 : x19_3 < (x4_1.length : Int) := od_ (by assumption)
           obtain ⟨ad217, e217, hx217_0⟩ := Kd.at_int (Kd.R_reads' HO_4.out).2.2 x19_3 p217 q217
           obtain rfl : (⟨go9, 0, none⟩ : Addr) = ad217 := (by injection e217)
           (first | simp only [add_plain] at hx217_0 | simp only [add_at] at hx217_0 | simp only [Addr.add, Nat.zero_add] at hx217_0 | skip)
           replace p217 := eq_true p217
           replace q217 := eq_true q217
           obtain ⟨Ao97, co97, eo97⟩ := Kd.R_slice HO_7.out
           (first | subst eo97 | (injection eo97 with f1_ f2_ f3_; have f4_ := f1_.symm; have f5_ := f3_.symm; clear f1_ f2_ f3_; subst f4_; subst f5_))
           have qa218 : ((x19_3 : Int) < (64 : Int)) = True := eq_true (by have e_ : x7_2.length = 64 := od_ (by assumption); have h_ : (x19_3 : Int) < ((x7_2.length : Int) : Int) := od_ (by assumption); omega)
           have p218 : 0 ≤ (x19_3 : Int) := od_ (by assumption)
           have q218 : x19_3 < (x7_2.length : Int) := od_ (by assumption)
           obtain ⟨ad218, e218, hx218_0⟩ := Kd.at_int (Kd.R_reads' HO_7.out).2.2 x19_3 p218 q218
           cases e218
           replace p218 := eq_true p218
           replace q218 := eq_true q218
           refine start_ (n := 14) (S := fun w' => w'.cell? ⟨go9, (x19_3).toNat, none⟩ = some (.int .u32 (rd x4_1 x19_3)) ∧ w'.cell? (ad218.add (x19_3).toNat) = some (.int .u32 (rd x7_2 x19_3))) (ds := []) #[false, false, false, false, false, false, false, false, false, false, false, false, false, false] (by kernel_rfl) rfl rfl ⟨hx217_0, hx218_0⟩ (fun hHeld => ?_); refine with_tabW palaverref02_Sum.tab22 palaverref02_Sum.bits22 (fun HT_ HW_ => ?_)
           generalize wr.drew = w96 at HO_3 HO_4 HO_7 HB hx217_0 hx218_0 hHeld ⊢
           refine runs_ [(0, some 170), (1, some 171), (2, some 172), (3, some 173), (4, some 174), (5, some 175), (6, some 176), (9, some 179), (10, some 180)] ?_
           iterate 9 (refine pureL_ (v := ?_) (a' := ?_) rfl rfl (any_of HT_.out (by kernel_rfl)) (Or.inl ⟨by rfl, ?_⟩) ?_ ?_ (fun _ _ _ h => h); rotate_left; (intro w'; go_simp; with_reducible rfl); rotate_left; (simp only [pr_]; rfl))
           refine runsE_ ?_
           refine take_ (i := 7) (N := some 177) (v := ?_) (a' := ?_) #[true, true, true, true, true, true, true, true, false, true, true, false, false, false] rfl rfl (take_ofW HT_.out HW_.out (by kernel_rfl)) (fun _ _ _ h => h) (Or.inl ⟨by rfl, ?_⟩) hHeld ?_ ?_
           rotate_left
           ·rintro w' ⟨s0, s1⟩
            go_simp
            with_reducible rfl
           rotate_left
           ·simp only [pr_]
            rfl
           refine pure_ (i := 8) (N := some 178) (v := ?_) (a' := ?_) #[true, true, true, true, true, true, true, true, true, true, true, false, false, false] rfl rfl (any_of HT_.out (by kernel_rfl)) (fun _ _ _ h => h) (Or.inl ⟨by rfl, ?_⟩) ?_ ?_
           rotate_left
           ·intro w'
            go_simp
            with_reducible rfl
           rotate_left
           ·simp only [pr_]
            rfl
           refine take_ (i := 11) (N := some 181) (v := ?_) (a' := ?_) #[true, true, true, true, true, true, true, true, true, true, true, true, false, false] rfl rfl (take_ofW HT_.out HW_.out (by kernel_rfl)) (fun _ _ _ h => h) (Or.inl ⟨by rfl, ?_⟩) hHeld ?_ ?_
           rotate_left
           ·rintro w' ⟨s0, s1⟩
            go_simp
            with_reducible rfl
           rotate_left
           ·simp only [pr_]
            rfl
           refine runs_ [(12, some 182), (13, some 22)] ?_
           iterate 2 (refine pureL_ (v := ?_) (a' := ?_) rfl rfl (any_of HT_.out (by kernel_rfl)) (Or.inl ⟨by rfl, ?_⟩) ?_ ?_ (fun _ _ _ h => h); rotate_left; (intro w'; go_simp; with_reducible rfl); rotate_left; (simp only [pr_]; rfl))
           refine runsE_ ?_
           refine done_ (done_of HT_.out (by kernel_rfl)) ?_
           try go_wp2_with (first | ((with_reducible refine gate_callee (f := 79) rfl ?_); refine goesL_ (some 184) rfl rfl Tryd.func79 (by kernel_rfl) rfl #[.int .u32 x11_3, .int .u32 2] rfl (by (try simp only [gm_]); first | done | rfl | (simp only [gl_]; rfl)) ?_; (with_reducible refine (palaverref02_turn.calls x11_3 2 t219 _ A93.out).mono ?_); rintro e w' ⟨rfl, ⟨nd, rfl⟩⟩; refine ⟨_, rfl, ?_⟩) | ((with_reducible refine gate_callee (f := 79) rfl ?_); refine goesL_ (some 186) rfl rfl Tryd.func79 (by kernel_rfl) rfl #[.int .u32 x11_3, .int .u32 13] rfl (by (try simp only [gm_]); first | done | rfl | (simp only [gl_]; rfl)) ?_; (with_reducible refine (palaverref02_turn.calls x11_3 13 t220 _ A94.out).mono ?_); rintro e w' ⟨rfl, ⟨nd, rfl⟩⟩; refine ⟨_, rfl, ?_⟩) | ((with_reducible refine gate_callee (f := 79) rfl ?_); refine goesL_ (some 189) rfl rfl Tryd.func79 (by kernel_rfl) rfl #[.int .u32 x11_3, .int .u32 22] rfl (by (try simp only [gm_]); first | done | rfl | (simp only [gl_]; rfl)) ?_; (with_reducible refine (palaverref02_turn.calls x11_3 22 t221 _ A95.out).mono ?_); rintro e w' ⟨rfl, ⟨nd, rfl⟩⟩; refine ⟨_, rfl, ?_⟩))
           go_roundg k3
           case measure => have := HK1.out; have := HK2.out; have := HK3.out; omega
           case rel => exact ⟨((((((x18_3 + (Go.bits .xor .u32 (Go.bits .xor .u32 t214 t215) t216)) + (Go.bits .xor .u32 (Go.bits .and .u32 x15_3 x16_3) (Go.bits .and .u32 (Go.bits .xor .u32 4294967295 x15_3) x17_3))) + (rd x4_1 x19_3)) + (rd x7_2 x19_3)) + ((Go.bits .xor .u32 (Go.bits .xor .u32 t219 t220) t221) + (Go.bits .xor .u32 (Go.bits .xor .u32 (Go.bits .and .u32 x11_3 x12_3) (Go.bits .and .u32 x11_3 x13_3)) (Go.bits .and .u32 x12_3 x13_3)))) % 4294967296), (x11_3), (x12_3), (x13_3), ((x14_3 + ((((x18_3 + (Go.bits .xor .u32 (Go.bits .xor .u32 t214 t215) t216)) + (Go.bits .xor .u32 (Go.bits .and .u32 x15_3 x16_3) (Go.bits .and .u32 (Go.bits .xor .u32 4294967295 x15_3) x17_3))) + (rd x4_1 x19_3)) + (rd x7_2 x19_3))) % 4294967296), (x15_3), (x16_3), (x17_3), (wrap64 (x19_3 + 1)), (by first | rfl | (simp; done) | (simp [*]; done) | (refine congrArg (Value.int _) ?_; first | omega | (unfold wrap64; omega))), (by first | rfl | (simp; done) | (simp [*]; done) | (refine congrArg (Value.int _) ?_; first | omega | (unfold wrap64; omega))), (by first | rfl | (simp; done) | (simp [*]; done) | (refine congrArg (Value.int _) ?_; first | omega | (unfold wrap64; omega))), (by first | rfl | (simp; done) | (simp [*]; done) | (refine congrArg (Value.int _) ?_; first | omega | (unfold wrap64; omega))), (by first | rfl | (simp; done) | (simp [*]; done) | (refine congrArg (Value.int _) ?_; first | omega | (unfold wrap64; omega))), (by first | rfl | (simp; done) | (simp [*]; done) | (refine congrArg (Value.int _) ?_; first | omega | (unfold wrap64; omega))), (by first | rfl | (simp; done) | (simp [*]; done) | (refine congrArg (Value.int _) ?_; first | omega | (unfold wrap64; omega))), (by first | rfl | (simp; done) | (simp [*]; done) | (refine congrArg (Value.int _) ?_; first | omega | (unfold wrap64; omega))), (by first | rfl | (simp; done) | (simp [*]; done) | (refine congrArg (Value.int _) ?_; first | omega | (unfold wrap64; omega))), H', ⟨by have := HK1.out; have := HK2.out; have := HK3.out; omega⟩, ⟨by (try simp only [hl3_1]); (try simp only [hl4_1]); (with_reducible repeat (first | apply Kd.R_alloc | apply Kd.R_drewN | apply Kd.R_drew)); exact HO_3.out⟩, ⟨by (try simp only [hl3_1]); (try simp only [hl4_1]); (with_reducible repeat (first | apply Kd.R_alloc | apply Kd.R_drewN | apply Kd.R_drew)); exact HO_4.out⟩, ⟨by (try simp only [hl3_1]); (try simp only [hl4_1]); (with_reducible repeat (first | apply Kd.R_alloc | apply Kd.R_drewN | apply Kd.R_drew)); exact HO_7.out⟩, ⟨by repeat (first | (with_reducible first | exact HB.out | apply lA_ | apply lN_ | apply lD_) | exact HB.out)⟩⟩
          ·rw [if_neg c88] at H
           exact absurd H (by simp)
          ⟩
          exact inferInstanceAs _
         refine Nonempty.elim ?gc84n id
         letI i_ : type_of% ?gc84n := ⟨by
         rw [if_neg c84] at H
         have c84b0 : decide (x19_3 < 64) = false := decide_eq_false c84
         (try (have c84b7 := c84b0; simp only [hl3_1, hl4_1] at c84b7))
         clear c84
         obtain ⟨y222, hy222⟩ : ∃ y_ : List Int, y_ = (List.replicate 8 0) := ⟨_, rfl⟩
         replace H : (if y222.length = 8 then (if 0 < (y222.length : Int) then (palaverref02_Sum.l3 k3 x3_1 x4_1 t188 x6_1 ([x11_3, x12_3, x13_3, x14_3, x15_3, x16_3, x17_3, x18_3]) 0) else (none)) else (none)) = some r := by first | (rw [hy222]; with_reducible exact H) | (have H2_ := (Option.bind_some _ _).symm.trans H; rw [hy222]; with_reducible exact H2_) | (have H2_ := (Option.bind_some _ _).symm.trans H; with_reducible exact H2_) | with_reducible exact H | (rw [hy222]; exact H) | exact H
         have Ny222 := Aside0.mk hy222
         clear hy222
         by_cases c98 : y222.length = 8
         ·rw [if_pos c98] at H
          have c98b0 := eq_true c98
          have c98b1 : decide (y222.length = 8) = true := decide_eq_true c98
          clear c98
          by_cases c99 : 0 < (y222.length : Int)
          rotate_left
          ·rw [if_neg c99] at H
           exact absurd H (by simp)
          rw [if_pos c99] at H
          have c99b0 : decide (0 < (y222.length : Int)) = true := decide_eq_true c99
          have c99b1 : decide (0 < y222.length) = true := decide_eq_true (by omega)
          (try (have c99b7 := c99b0; simp only [hl3_1, hl4_1] at c99b7))
          (try (have c99b8 := c99b1; simp only [hl3_1, hl4_1] at c99b8))
          clear c99
          obtain ⟨y225, hy225⟩ : ∃ y_ : List Int, y_ = ([x11_3, x12_3, x13_3, x14_3, x15_3, x16_3, x17_3, x18_3]) := ⟨_, rfl⟩
          replace H : (palaverref02_Sum.l3 k3 x3_1 x4_1 t188 x6_1 y225 0) = some r := by first | (rw [hy225]; with_reducible exact H) | (have H2_ := (Option.bind_some _ _).symm.trans H; rw [hy225]; with_reducible exact H2_) | (have H2_ := (Option.bind_some _ _).symm.trans H; with_reducible exact H2_) | with_reducible exact H | (rw [hy225]; exact H) | exact H
          have Ny225 := Aside0.mk hy225
          clear hy225
          have H' := Aside0.mk H
          clear H
          go_wp2_with (first | ((with_reducible refine gate_dst (N := 26) rfl ?_); refine R_arr (Value.int .u32) (fun _ => rfl) _ 105 ?hg (N := 26) ?hd (List.replicate 8 0) ?hr (Below.refl _ _) (Nat.le_refl _) (by decide) ?_; (case hd => rfl); (case hg => rfl); (case hr => first | (go_simp; done) | (go_simp; rfl)); intro v223 w101 ho102 hb hg_ hnew_; clear hg_ hnew_; (first | rw [← Ny222.out] at ho102 | (simp only [Int.reduceToNat] at ho102; rw [← Ny222.out] at ho102)); have n0_ := Aside0.mk (Kd.R_elder' (by (with_reducible repeat (first | apply Kd.R_alloc | apply Kd.R_drewN | apply Kd.R_drew)); exact HO_3.out) (Kd.R_base ho102) hb); have n1_ := Aside0.mk (Kd.R_below (by (with_reducible repeat (first | apply Kd.R_alloc | apply Kd.R_drewN | apply Kd.R_drew)); exact HO_4.out) hb); have n2_ := Aside0.mk (Kd.R_below (by (with_reducible repeat (first | apply Kd.R_alloc | apply Kd.R_drewN | apply Kd.R_drew)); exact HO_7.out) hb); have n3_ := Aside0.mk (Kd.R_lower (Kd.R_new' ho102 (Kd.R_lt (by (with_reducible repeat (first | apply Kd.R_alloc | apply Kd.R_drewN | apply Kd.R_drew)); exact HO_3.out))) (below_size (by repeat (first | (with_reducible first | exact HB.out | apply lA_ | apply lN_ | apply lD_) | exact HB.out)))); have n4_ := Aside0.mk (below_step (by repeat (first | (with_reducible first | exact HB.out | apply lA_ | apply lN_ | apply lD_) | exact HB.out)) hb); clear HO_3; clear HO_4; clear HO_7; clear HB; have HO_3 := n0_; have HO_4 := n1_; have HO_7 := n2_; have HO224 := n3_; have HB := n4_; clear n0_ n1_ n2_ n3_ n4_; clear hb ho102; have qa100 : ((0 : Int) < (8 : Int)) = True := eq_true (by have e_ : y222.length = 8 := od_ (by assumption); have h_ : (0 : Int) < ((y222.length : Int) : Int) := od_ (by assumption); omega); have p100 : 0 ≤ (0 : Int) := (by omega); have q100 : (0 : Int) < ((y222.length : Int) : Int) := od_ (by assumption); have qi100 : (0 < y222.length) = True := eq_true (by omega); obtain ⟨go100, co100, eo100, gb100, gl100, cl100, HG100⟩ := Kd.R_form HO224.out (by omega); (first | cases eo100 | (injection eo100 with ea_ en_ ec_; (first | subst ea_ | (injection ea_ with ea_; subst ea_)); subst ec_; clear en_)); have GB100 := Aside0.mk gb100; have GG100 := Aside0.mk HG100; clear gb100 gl100 HG100; obtain ⟨hx100_0, hf100_0⟩ := Kd.R_celln 0 HO224.out (0 : Int) p100 q100; (try rw [show ((0 : Int)).toNat = 0 from rfl] at hx100_0); (try simp only [Nat.reduceMul, Nat.zero_mul, Nat.zero_add, Nat.reduceAdd] at hx100_0); (try rw [show ((0 : Int)).toNat = 0 from rfl] at hf100_0); (try simp only [Nat.reduceMul, Nat.zero_mul, Nat.zero_add, Nat.reduceAdd] at hf100_0); replace p100 := eq_true p100; replace q100 := eq_true q100; have n_ := Aside0.mk (Kd.R_mono (ok' := (fun k_ => some k_ ≠ (.slice (some ⟨go5, 0, none⟩) x3_1.length co5 : Value).ownBlock)) HO224.out (fun k_ hk => hk.2)); clear HO224; have HO224 := n_; clear n_; have HP103 := R_whole (ys := [x11_3, x12_3, x13_3, x14_3, x15_3, x16_3, x17_3, x18_3]) HO224.out (by have e_ : y222.length = 8 := od_ (by assumption); have e2_ := (Kd.R_reads' HO224.out).1; first | (rw [e_]; rfl) | (simp only [List.length_cons, List.length_nil]; omega))) | ((with_reducible refine gate_store (t := 105) (p := 26) rfl ?_); refine store_event (t := 105) (p := 26) (v := ?vo_w104) (w1 := (w101.setCells go100 0 (encs (Value.int .u32) [x11_3, x12_3, x13_3, x14_3, x15_3, x16_3, x17_3, x18_3]))) ?hg ?ho ?hn ?hr ?_; (case ho => rfl); (case hg => rfl); (case hn => rfl); (case hr => exact whole_run (ys := [x11_3, x12_3, x13_3, x14_3, x15_3, x16_3, x17_3, x18_3]) rfl rfl rfl (by kernel_rfl) HO224.out (by have e_ : y222.length = 8 := od_ (by assumption); have e2_ := (Kd.R_reads' HO224.out).1; first | (rw [e_]; rfl) | (simp only [List.length_cons, List.length_nil]; omega))); intro w104 hw; have hg : w101.grownBy w104 (some go100) := (by rw [hw]; exact HP103.2); have hp_ : Kd.R (Kd.int .u32) 105 w104 w.heap.size (fun k_ => some k_ ≠ (.slice (some ⟨go5, 0, none⟩) x3_1.length co5 : Value).ownBlock) (.slice (some ⟨go100, 0, none⟩) y222.length co100) y225 := (by rw [hw, Ny225.out]; exact HP103.1); clear HP103; have n0_ := Aside0.mk (Kd.R_after (v := (.slice (some ⟨go100, 0, none⟩) y222.length co100)) (v1 := (.slice (some ⟨go100, 0, none⟩) y222.length co100)) (ok := (fun _ => True)) (by (with_reducible repeat (first | apply Kd.R_alloc | apply Kd.R_drewN | apply Kd.R_drew)); exact HO_3.out) hg (.inl rfl)); have n1_ := Aside0.mk (Kd.R_over' (v := (.slice (some ⟨go100, 0, none⟩) y222.length co100)) (by (with_reducible repeat (first | apply Kd.R_alloc | apply Kd.R_drewN | apply Kd.R_drew)); exact HO_4.out) (Kd.R_typed HO224.out) (by decide) hg); have n2_ := Aside0.mk (Kd.R_over' (v := (.slice (some ⟨go100, 0, none⟩) y222.length co100)) (by (with_reducible repeat (first | apply Kd.R_alloc | apply Kd.R_drewN | apply Kd.R_drew)); exact HO_7.out) (Kd.R_typed HO224.out) (by decide) hg); have n3_ := Aside0.mk (hp_); have n4_ := Aside0.mk ((Below.grown HB.out hg (below_size HB.out) (fun k_ e_ => (Option.some.inj e_) ▸ GB100.out) : Below w.heap.size w w104)); clear HO_3; clear HO_4; clear HO_7; clear HO224; clear HB; have HO_3 := n0_; have HO_4 := n1_; have HO_7 := n2_; have HO224 := n3_; have HB := n4_; clear n0_ n1_ n2_ n3_ n4_; clear hg hw hp_))
          go_loopg [27] k3 (fun kq v27 w' => ∃ (x3_4 : List Int) (x27_4 : Int), v27 = .int .i64 x27_4 ∧ Aside0 (palaverref02_Sum.l3 kq x3_4 x4_1 t188 x6_1 y225 x27_4 = some r) ∧ Aside0 (kq ≤ k3) ∧ Aside0 (Kd.R (Kd.int .u32) 105 w' w.heap.size (fun k_ => some k_ ≠ ((.slice (some ⟨go100, 0, none⟩) y222.length co100) : Value).ownBlock) (.slice (some ⟨go5, 0, none⟩) x3_1.length co5) x3_4) ∧ Aside0 (Kd.R (Kd.int .u32) 113 w' w.heap.size (fun _ => True) (.slice (some ⟨go9, 0, none⟩) x4_1.length co9) x4_1) ∧ Aside0 (Kd.R (Kd.int .u32) 105 w' w.heap.size (fun k_ => some k_ ≠ ((.slice (some ⟨go5, 0, none⟩) x3_1.length co5) : Value).ownBlock) (.slice (some ⟨go100, 0, none⟩) y222.length co100) y225) ∧ Aside0 (Below w.heap.size w w'))
          case atStart => exact ⟨(x3_1), (0), (by first | rfl | (simp; done) | (simp [*]; done) | (refine congrArg (Value.int _) ?_; first | omega | (unfold wrap64; omega))), H', ⟨Nat.le_refl _⟩, ⟨by (try simp only [hl3_1]); (try simp only [hl4_1]); (with_reducible repeat (first | apply Kd.R_alloc | apply Kd.R_drewN | apply Kd.R_drew)); exact Kd.R_mono HO_3.out (fun _ hk => hk.2)⟩, ⟨by (try simp only [hl3_1]); (try simp only [hl4_1]); (with_reducible repeat (first | apply Kd.R_alloc | apply Kd.R_drewN | apply Kd.R_drew)); exact Kd.R_mono HO_4.out (fun _ hk => trivial)⟩, ⟨by (try simp only [hl3_1]); (try simp only [hl4_1]); (with_reducible repeat (first | apply Kd.R_alloc | apply Kd.R_drewN | apply Kd.R_drew)); exact HO224.out⟩, ⟨by repeat (first | (with_reducible first | exact HB.out | apply lA_ | apply lN_ | apply lD_) | exact HB.out)⟩⟩
          case round =>
           clear H'
           (try clear p1); (try clear q1); (try clear hx1); (try clear qi1); (try clear hf1); (try clear c2); (try clear p2); (try clear q2); (try clear hx2); (try clear qi2); (try clear c4); (try clear c5); (try clear c6); (try clear p6); (try clear q6); (try clear hx6); (try clear hf6); (try clear c7); (try clear c8); (try clear c9); (try clear p10); (try clear q10); (try clear hx10); (try clear qi10); (try clear hf10); (try clear hx19); (try clear p20); (try clear q20); (try clear hx20); (try clear qi20); (try clear p21); (try clear q21); (try clear hx21); (try clear qi21); (try clear c25); (try clear c25b0); (try clear c25b7); (try clear c49); (try clear c51); (try clear c52); (try clear c56); (try clear c57); (try clear c61); (try clear c62); (try clear c64); (try clear p64); (try clear c65); (try clear c66); (try clear c67); (try clear p68); (try clear q68); (try clear hx68); (try clear hf68); (try clear c74); (try clear c74b0); (try clear c74b1); (try clear c75); (try clear c75b0); (try clear c75b1); (try clear c75b7); (try clear c75b8); (try clear c76); (try clear c76b0); (try clear c76b1); (try clear c76b7); (try clear c76b8); (try clear c77); (try clear c77b0); (try clear c77b1); (try clear c77b7); (try clear c77b8); (try clear c78); (try clear c78b0); (try clear c78b1); (try clear c78b7); (try clear c78b8); (try clear c79); (try clear c79b0); (try clear c79b1); (try clear c79b7); (try clear c79b8); (try clear c80); (try clear c80b0); (try clear c80b1); (try clear c80b7); (try clear c80b8); (try clear c81); (try clear c81b0); (try clear c81b1); (try clear c81b7); (try clear c81b8); (try clear c82); (try clear c82b0); (try clear c82b1); (try clear c82b7); (try clear c82b8); (try clear c84); (try clear c84b0); (try clear c84b7); (try clear c88); (try clear c88b0); (try clear c88b1); (try clear c89); (try clear c89b0); (try clear c89b7); (try clear c90); (try clear c90b0); (try clear c90b7); (try clear c91); (try clear c91b0); (try clear c91b1); (try clear c92); (try clear c92b0); (try clear c92b7); (try clear c98); (try clear c98b0); (try clear c98b1); (try clear c99); (try clear c99b0); (try clear c99b1); (try clear c99b7); (try clear c99b8); (try clear p100); (try clear q100); (try clear hx100); (try clear qi100); (try clear hf100); (try clear hx100_0); (try clear hx193_0); (try clear hx195_0); (try clear hx197_0); (try clear hx198_0); (try clear hx200_0); (try clear hx202_0); (try clear hx203_0); (try clear hx204_0); (try clear hx206_0); (try clear hx207_0); (try clear hx208_0); (try clear hx209_0); (try clear hx210_0); (try clear hx211_0); (try clear hx212_0); (try clear hx213_0); (try clear hx217_0); (try clear hx218_0); (try clear hx68_0); (try clear p100); (try clear p2); (try clear p20); (try clear p203); (try clear p204); (try clear p206); (try clear p207); (try clear p208); (try clear p209); (try clear p21); (try clear p210); (try clear p211); (try clear p212); (try clear p213); (try clear p217); (try clear p218); (try clear p6); (try clear p64); (try clear p68); (try clear q100); (try clear q2); (try clear q20); (try clear q203); (try clear q204); (try clear q206); (try clear q207); (try clear q208); (try clear q209); (try clear q21); (try clear q210); (try clear q211); (try clear q212); (try clear q213); (try clear q217); (try clear q218); (try clear q6); (try clear q68)
           obtain ⟨x3_4, x27_4, rfl, HA, HK4, HO_3, HO_4, HO_26, HB⟩ := hrel
           have hl3_4 := (Kd.R_reads' HO_3.out).1
           rw [hl3_4] at HO_3
           (try simp only [hl3_4])
           (try simp only [hl3_4] at HO_4)
           (try simp only [hl3_4] at HO_26)
           have hl26_4 := (Kd.R_reads' HO_26.out).1
           rw [hl26_4] at HO_26
           (try simp only [hl26_4])
           (try simp only [hl26_4] at HO_3)
           (try simp only [hl26_4] at HO_4)
           cases gk with
           | zero => exact absurd HA.out (by simp [palaverref02_Sum.l3])
           | succ k4 =>
            have H := HA.out
            clear HA
            simp only [palaverref02_Sum.l3] at H
            by_cases c105 : x27_4 < 8
            ·refine Nonempty.elim ?gc105p id
             letI i_ : type_of% ?gc105p := ⟨by
             rw [if_pos c105] at H
             have c105b0 : decide (x27_4 < 8) = true := decide_eq_true c105
             (try (have c105b7 := c105b0; simp only [hl3_1, hl4_1, hl3_4, hl26_4] at c105b7))
             clear c105
             by_cases c106 : x3_4.length = 8
             ·rw [if_pos c106] at H
              have c106b0 := eq_true c106
              have c106b1 : decide (x3_4.length = 8) = true := decide_eq_true c106
              clear c106
              by_cases c107 : 0 ≤ x27_4
              rotate_left
              ·rw [if_neg c107] at H
               exact absurd H (by simp)
              rw [if_pos c107] at H
              have c107b0 : decide (0 ≤ x27_4) = true := decide_eq_true c107
              (try (have c107b7 := c107b0; simp only [hl3_1, hl4_1, hl3_4, hl26_4] at c107b7))
              clear c107
              by_cases c108 : x27_4 < (x3_4.length : Int)
              rotate_left
              ·rw [if_neg c108] at H
               exact absurd H (by simp)
              rw [if_pos c108] at H
              have c108b0 : decide (x27_4 < (x3_4.length : Int)) = true := decide_eq_true c108
              (try (have c108b7 := c108b0; simp only [hl3_1, hl4_1, hl3_4, hl26_4] at c108b7))
              clear c108
              by_cases c109 : y225.length = 8
              rotate_left
              ·rw [if_neg c109] at H
               exact absurd H (by simp)
              rw [if_pos c109] at H
              have c109b0 := eq_true c109
              have c109b1 : decide (y225.length = 8) = true := decide_eq_true c109
              clear c109
              by_cases c110 : x27_4 < (y225.length : Int)
              rotate_left
              ·rw [if_neg c110] at H
               exact absurd H (by simp)
              rw [if_pos c110] at H
              have c110b0 : decide (x27_4 < (y225.length : Int)) = true := decide_eq_true c110
              (try (have c110b7 := c110b0; simp only [hl3_1, hl4_1, hl3_4, hl26_4] at c110b7))
              clear c110
              obtain ⟨y228, hy228⟩ : ∃ y_ : List Int, y_ = (x3_4.set (x27_4 : Int).toNat (((rd x3_4 x27_4) + (rd y225 x27_4)) % 4294967296)) := ⟨_, rfl⟩
              replace H : (palaverref02_Sum.l3 k4 y228 x4_1 t188 x6_1 y225 (wrap64 (x27_4 + 1))) = some r := by first | (rw [hy228]; with_reducible exact H) | (have H2_ := (Option.bind_some _ _).symm.trans H; rw [hy228]; with_reducible exact H2_) | (have H2_ := (Option.bind_some _ _).symm.trans H; with_reducible exact H2_) | with_reducible exact H | (rw [hy228]; exact H) | exact H
              have Ny228 := Aside0.mk hy228
              clear hy228
              have H' := Aside0.mk H
              clear H
              try go_wp2
              have n0_ := Aside0.mk (Kd.R_drew HO_3.out)
              have n1_ := Aside0.mk (Kd.R_drew HO_4.out)
              have n2_ := Aside0.mk (Kd.R_drew HO_26.out)
              have n3_ := Aside0.mk (below_drew1 HB.out)
              clear HO_3
              clear HO_4
              clear HO_26
              clear HB
              have HO_3 := n0_
              have HO_4 := n1_
              have HO_26 := n2_
              have HB := n3_
              clear n0_ n1_ n2_ n3_
              have qa226 : ((x27_4 : Int) < (8 : Int)) = True := eq_true (by have e_ : x3_4.length = 8 := od_ (by assumption); have h_ : (x27_4 : Int) < ((x3_4.length : Int) : Int) := od_ (by assumption); omega)
              have p226 : 0 ≤ (x27_4 : Int) := od_ (by assumption)
              have q226 : x27_4 < (x3_4.length : Int) := od_ (by assumption)
              obtain ⟨ad226, e226, hx226_0⟩ := Kd.at_int (Kd.R_reads' HO_3.out).2.2 x27_4 p226 q226
              obtain rfl : (⟨go5, 0, none⟩ : Addr) = ad226 := (by injection e226)
              (first | simp only [add_plain] at hx226_0 | simp only [add_at] at hx226_0 | simp only [Addr.add, Nat.zero_add] at hx226_0 | skip)
              replace p226 := eq_true p226
              replace q226 := eq_true q226
              have qa227 : ((x27_4 : Int) < (8 : Int)) = True := eq_true (by have e_ : y225.length = 8 := od_ (by assumption); have h_ : (x27_4 : Int) < ((y225.length : Int) : Int) := od_ (by assumption); omega)
              have p227 : 0 ≤ (x27_4 : Int) := od_ (by assumption)
              have q227 : x27_4 < (y225.length : Int) := od_ (by assumption)
              obtain ⟨ad227, e227, hx227_0⟩ := Kd.at_int (Kd.R_reads' HO_26.out).2.2 x27_4 p227 q227
              obtain rfl : (⟨go100, 0, none⟩ : Addr) = ad227 := (by injection e227)
              (first | simp only [add_plain] at hx227_0 | simp only [add_at] at hx227_0 | simp only [Addr.add, Nat.zero_add] at hx227_0 | skip)
              replace p227 := eq_true p227
              replace q227 := eq_true q227
              have qa111 : ((x27_4 : Int) < (8 : Int)) = True := eq_true (by have e_ : x3_4.length = 8 := od_ (by assumption); have h_ : (x27_4 : Int) < ((x3_4.length : Int) : Int) := od_ (by assumption); omega)
              have p111 : 0 ≤ (x27_4 : Int) := od_ (by assumption)
              have q111 : (x27_4 : Int) < ((x3_4.length : Int) : Int) := od_ (by assumption)
              obtain ⟨hx111_0, hf111_0⟩ := Kd.R_celln 0 HO_3.out (x27_4 : Int) p111 q111
              replace p111 := eq_true p111
              replace q111 := eq_true q111
              have HP113 := Kd.R_putn HO_3.out (x27_4 : Int) (((rd x3_4 x27_4) + (rd y225 x27_4)) % 4294967296)
              rw [← Ny228.out] at HP113
              have HQ113 := Aside0.mk HP113
              clear HP113
              refine start_ (n := 10) (S := fun w' => w'.cell? ⟨go5, (x27_4).toNat, none⟩ = some (.int .u32 (rd x3_4 x27_4)) ∧ w'.cell? ⟨go100, (x27_4).toNat, none⟩ = some (.int .u32 (rd y225 x27_4))) (ds := [9]) #[false, false, false, false, false, false, false, false, false, false] (by kernel_rfl) rfl rfl ⟨hx226_0, hx227_0⟩ (fun hHeld => ?_); refine with_tabW palaverref02_Sum.tab38 palaverref02_Sum.bits38 (fun HT_ HW_ => ?_)
              generalize wr.drew = w112 at HO_3 HO_4 HO_26 HB HQ113 hf111_0 hx111_0 hx226_0 hx227_0 hHeld ⊢
              refine runs_ [(0, some 230), (1, some 231), (2, some 232), (4, some 234), (5, some 235)] ?_
              iterate 5 (refine pureL_ (v := ?_) (a' := ?_) rfl rfl (any_of HT_.out (by kernel_rfl)) (Or.inl ⟨by rfl, ?_⟩) ?_ ?_ (fun _ _ _ h => h); rotate_left; (intro w'; go_simp; with_reducible rfl); rotate_left; (simp only [pr_]; rfl))
              refine runsE_ ?_
              refine runs_ [(3, some 233), (6, some 236)] ?_
              iterate 2 (refine takeL_ (v := ?_) (a' := ?_) rfl rfl (take_ofW HT_.out HW_.out (by kernel_rfl)) (Or.inl ⟨by rfl, ?_⟩) hHeld ?_ ?_ (fun _ _ _ h => h); rotate_left; (rintro w' ⟨s0, s1⟩; go_simp; with_reducible rfl); rotate_left; (simp only [pr_]; rfl))
              refine runsE_ ?_
              refine runs_ [(7, some 237), (8, some 238)] ?_
              iterate 2 (refine pureL_ (v := ?_) (a' := ?_) rfl rfl (any_of HT_.out (by kernel_rfl)) (Or.inl ⟨by rfl, ?_⟩) ?_ ?_ (fun _ _ _ h => h); rotate_left; (intro w'; go_simp; with_reducible rfl); rotate_left; (simp only [pr_]; rfl))
              refine runsE_ ?_
              refine last_ (i := 9) (N := none) #[true, true, true, true, true, true, true, true, true, true] rfl rfl (one_of HT_.out (by kernel_rfl)) (by decide) (fun K hK => ?_)
              refine skip_set ⟨go5, (x27_4 : Int).toNat, none⟩ (.int .u32 (((rd x3_4 x27_4) + (rd y225 x27_4)) % 4294967296)) (by rfl) rfl ?_ ?_
              ·first | (go_simp; done) | (go_simp; rfl) | (go_simp; (try simp only [IntKind.wrap_u32, IntKind.wrap_u8]); refine congrArg (fun v_ => World.setCell _ _ (Value.int _ v_)) ?_; omega)
              refine hK.out _ _ ?_
              clear hK K
              refine done_ (done_of HT_.out (by kernel_rfl)) ?_
              try go_wp2
              (try simp only [← hl3_4, ← hl26_4])
              go_roundg k4
              case measure => have := HK1.out; have := HK2.out; have := HK3.out; have := HK4.out; omega
              case rel => exact ⟨(y228), (wrap64 (x27_4 + 1)), (by first | rfl | (simp; done) | (simp [*]; done) | (refine congrArg (Value.int _) ?_; first | omega | (unfold wrap64; omega))), H', ⟨by have := HK1.out; have := HK2.out; have := HK3.out; have := HK4.out; omega⟩, ⟨by (try simp only [hl3_1]); (try simp only [hl4_1]); (try simp only [hl3_4]); (try simp only [hl26_4]); (with_reducible repeat (first | apply Kd.R_alloc | apply Kd.R_drewN | apply Kd.R_drew)); exact HQ113.out⟩, ⟨by (try simp only [hl3_1]); (try simp only [hl4_1]); (try simp only [hl3_4]); (try simp only [hl26_4]); (with_reducible repeat (first | apply Kd.R_alloc | apply Kd.R_drewN | apply Kd.R_drew)); exact Kd.R_mono (Kd.R_far (p := ⟨go5, (x27_4 : Int).toNat, none⟩) (Kd.R_types HO_4.out (Kd.R_typed HO_3.out _ rfl).choose_spec (by decide)) (fun _ hk => hk.2) (.int .u32 (((rd x3_4 x27_4) + (rd y225 x27_4)) % 4294967296))) (fun _ hk => trivial)⟩, ⟨by (try simp only [hl3_1]); (try simp only [hl4_1]); (try simp only [hl3_4]); (try simp only [hl26_4]); (with_reducible repeat (first | apply Kd.R_alloc | apply Kd.R_drewN | apply Kd.R_drew)); exact Kd.R_mono (Kd.R_far (p := ⟨go5, (x27_4 : Int).toNat, none⟩) (Kd.R_mono HO_26.out (fun k_ hk => (⟨hk, fun e_ => hk (by rw [e_]; rfl)⟩ : _ ∧ k_ ≠ go5))) (fun _ hk => hk.2) (.int .u32 (((rd x3_4 x27_4) + (rd y225 x27_4)) % 4294967296))) (fun _ hk => hk.1)⟩, ⟨by repeat (first | (with_reducible first | exact HB.out | apply lA_ | apply lN_ | apply lD_ | refine lS_ ?_ GB5.out) | exact HB.out)⟩⟩
             ·rw [if_neg c106] at H
              exact absurd H (by simp)
             ⟩
             exact inferInstanceAs _
            rw [if_neg c105] at H
            have c105b0 : decide (x27_4 < 8) = false := decide_eq_false c105
            (try (have c105b7 := c105b0; simp only [hl3_1, hl4_1, hl3_4, hl26_4] at c105b7))
            clear c105
            have H' := Aside0.mk H
            clear H
            go_wp2
            (try simp only [← hl3_1, ← hl4_1, ← hl3_4, ← hl26_4])
            go_roundg k4
            case measure => have := HK1.out; have := HK2.out; have := HK3.out; have := HK4.out; omega
            case rel => exact ⟨(x3_4), (x4_1), (wrap64 (x6_1 + 64)), (by first | rfl | (simp; done) | (simp [*]; done) | (refine congrArg (Value.int _) ?_; first | omega | (unfold wrap64; omega))), H', ⟨by have := HK1.out; have := HK2.out; have := HK3.out; have := HK4.out; omega⟩, ⟨by (try simp only [hl3_1]); (try simp only [hl4_1]); (try simp only [hl3_4]); (try simp only [hl26_4]); (with_reducible repeat (first | apply Kd.R_alloc | apply Kd.R_drewN | apply Kd.R_drew)); exact Kd.R_mono HO_3.out (fun _ hk => trivial)⟩, ⟨by (try simp only [hl3_1]); (try simp only [hl4_1]); (try simp only [hl3_4]); (try simp only [hl26_4]); (with_reducible repeat (first | apply Kd.R_alloc | apply Kd.R_drewN | apply Kd.R_drew)); exact HO_4.out⟩, ⟨by repeat (first | (with_reducible first | exact HB.out | apply lA_ | apply lN_ | apply lD_) | exact HB.out)⟩⟩
         ·rw [if_neg c98] at H
          exact absurd H (by simp)
         ⟩
         exact inferInstanceAs _
      ·rw [if_neg c74] at H
       exact absurd H (by simp)
      ⟩
      exact inferInstanceAs _
    ⟩
    exact inferInstanceAs _
   refine Nonempty.elim ?gc22n id
   letI i_ : type_of% ?gc22n := ⟨by
   rw [if_neg c22] at H
   have c22b0 : decide (x6_1 < (t188.size : Int)) = false := decide_eq_false c22
   (try (have c22b7 := c22b0; simp only [hl3_1, hl4_1] at c22b7))
   clear c22
   have H' := Aside0.mk H
   clear H
   go_wp2
   go_loopg [28, 29] k1 (fun kq v28 v29 w' => ∃ (x28_2 : List Int) (x29_2 : Int), v29 = .int .i64 x29_2 ∧ Aside0 (palaverref02_Sum.l4 kq x3_1 x28_2 x29_2 = some r) ∧ Aside0 (kq ≤ k1) ∧ Aside0 (Kd.R (Kd.int .u32) 105 w' w.heap.size (fun _ => True) (.slice (some ⟨go5, 0, none⟩) x3_1.length co5) x3_1) ∧ Aside0 (Kd.R (Kd.int .u8) 5 w' w.heap.size (fun _ => True) v28 x28_2) ∧ Aside0 (Below w.heap.size w w'))
   case atStart => exact ⟨(([] : List Int)), (0), (by first | rfl | (simp; done) | (simp [*]; done) | (refine congrArg (Value.int _) ?_; first | omega | (unfold wrap64; omega))), H', ⟨Nat.le_refl _⟩, ⟨by (try simp only [hl3_1]); (try simp only [hl4_1]); (with_reducible repeat (first | apply Kd.R_alloc | apply Kd.R_drewN | apply Kd.R_drew)); exact HO_3.out⟩, ⟨by (try simp only [hl3_1]); (try simp only [hl4_1]); first | exact Kd.R_nil _ _ _ _ _ | exact Kd.N_nil _ _ _ _ _ | exact Kd.V_nil _ _ _ _ _ | exact Kd.Q_nil _ _ _ _ _ | exact Kd.S_nil _ _ _ _ _⟩, ⟨by repeat (first | (with_reducible first | exact HB.out | apply lA_ | apply lN_ | apply lD_) | exact HB.out)⟩⟩
   case round =>
    clear H'
    (try clear c1); (try clear p1); (try clear q1); (try clear hx1); (try clear qi1); (try clear hf1); (try clear c2); (try clear p2); (try clear q2); (try clear hx2); (try clear qi2); (try clear c4); (try clear c5); (try clear c6); (try clear p6); (try clear q6); (try clear hx6); (try clear hf6); (try clear c7); (try clear c8); (try clear c9); (try clear c10); (try clear p10); (try clear q10); (try clear hx10); (try clear qi10); (try clear hf10); (try clear c11); (try clear p11); (try clear q11); (try clear hx11); (try clear hf11); (try clear hx19); (try clear p20); (try clear q20); (try clear hx20); (try clear qi20); (try clear p21); (try clear q21); (try clear hx21); (try clear qi21); (try clear c22); (try clear c22b0); (try clear c22b7); (try clear p22); (try clear q22); (try clear hx22); (try clear c25); (try clear c25b0); (try clear c25b7); (try clear c49); (try clear c51); (try clear c52); (try clear c56); (try clear c57); (try clear c61); (try clear c62); (try clear c64); (try clear p64); (try clear c65); (try clear c66); (try clear c67); (try clear p68); (try clear q68); (try clear hx68); (try clear hf68); (try clear c74); (try clear c74b0); (try clear c74b1); (try clear c75); (try clear c75b0); (try clear c75b1); (try clear c75b7); (try clear c75b8); (try clear c76); (try clear c76b0); (try clear c76b1); (try clear c76b7); (try clear c76b8); (try clear c77); (try clear c77b0); (try clear c77b1); (try clear c77b7); (try clear c77b8); (try clear c78); (try clear c78b0); (try clear c78b1); (try clear c78b7); (try clear c78b8); (try clear c79); (try clear c79b0); (try clear c79b1); (try clear c79b7); (try clear c79b8); (try clear c80); (try clear c80b0); (try clear c80b1); (try clear c80b7); (try clear c80b8); (try clear c81); (try clear c81b0); (try clear c81b1); (try clear c81b7); (try clear c81b8); (try clear c82); (try clear c82b0); (try clear c82b1); (try clear c82b7); (try clear c82b8); (try clear c84); (try clear c84b0); (try clear c84b7); (try clear c88); (try clear c88b0); (try clear c88b1); (try clear c89); (try clear c89b0); (try clear c89b7); (try clear c90); (try clear c90b0); (try clear c90b7); (try clear c91); (try clear c91b0); (try clear c91b1); (try clear c92); (try clear c92b0); (try clear c92b7); (try clear c98); (try clear c98b0); (try clear c98b1); (try clear c99); (try clear c99b0); (try clear c99b1); (try clear c99b7); (try clear c99b8); (try clear p100); (try clear q100); (try clear hx100); (try clear qi100); (try clear hf100); (try clear c105); (try clear c105b0); (try clear c105b7); (try clear c106); (try clear c106b0); (try clear c106b1); (try clear c107); (try clear c107b0); (try clear c107b7); (try clear c108); (try clear c108b0); (try clear c108b7); (try clear c109); (try clear c109b0); (try clear c109b1); (try clear c110); (try clear c110b0); (try clear c110b7); (try clear p111); (try clear q111); (try clear hx111); (try clear hf111); (try clear hx100_0); (try clear hx111_0); (try clear hx193_0); (try clear hx195_0); (try clear hx197_0); (try clear hx198_0); (try clear hx200_0); (try clear hx202_0); (try clear hx203_0); (try clear hx204_0); (try clear hx206_0); (try clear hx207_0); (try clear hx208_0); (try clear hx209_0); (try clear hx210_0); (try clear hx211_0); (try clear hx212_0); (try clear hx213_0); (try clear hx217_0); (try clear hx218_0); (try clear hx226_0); (try clear hx227_0); (try clear hx68_0); (try clear p1); (try clear p10); (try clear p100); (try clear p111); (try clear p2); (try clear p20); (try clear p203); (try clear p204); (try clear p206); (try clear p207); (try clear p208); (try clear p209); (try clear p21); (try clear p210); (try clear p211); (try clear p212); (try clear p213); (try clear p217); (try clear p218); (try clear p226); (try clear p227); (try clear p6); (try clear p64); (try clear p68); (try clear q1); (try clear q10); (try clear q100); (try clear q111); (try clear q2); (try clear q20); (try clear q203); (try clear q204); (try clear q206); (try clear q207); (try clear q208); (try clear q209); (try clear q21); (try clear q210); (try clear q211); (try clear q212); (try clear q213); (try clear q217); (try clear q218); (try clear q226); (try clear q227); (try clear q6); (try clear q68)
    obtain ⟨x28_2, x29_2, rfl, HA, HK2, HO_3, HO_28, HB⟩ := hrel
    cases gk with
    | zero => exact absurd HA.out (by simp [palaverref02_Sum.l4])
    | succ k2 =>
     have H := HA.out
     clear HA
     simp only [palaverref02_Sum.l4] at H
     by_cases c114 : x29_2 < 8
     ·refine Nonempty.elim ?gc114p id
      letI i_ : type_of% ?gc114p := ⟨by
      rw [if_pos c114] at H
      have c114b0 : decide (x29_2 < 8) = true := decide_eq_true c114
      (try (have c114b7 := c114b0; simp only [hl3_1, hl4_1] at c114b7))
      clear c114
      by_cases c115 : x3_1.length = 8
      ·rw [if_pos c115] at H
       have c115b0 := eq_true c115
       have c115b1 : decide (x3_1.length = 8) = true := decide_eq_true c115
       clear c115
       by_cases c116 : 0 ≤ x29_2
       rotate_left
       ·rw [if_neg c116] at H
        exact absurd H (by simp)
       rw [if_pos c116] at H
       have c116b0 : decide (0 ≤ x29_2) = true := decide_eq_true c116
       (try (have c116b7 := c116b0; simp only [hl3_1, hl4_1] at c116b7))
       clear c116
       by_cases c117 : x29_2 < (x3_1.length : Int)
       rotate_left
       ·rw [if_neg c117] at H
        exact absurd H (by simp)
       rw [if_pos c117] at H
       have c117b0 : decide (x29_2 < (x3_1.length : Int)) = true := decide_eq_true c117
       (try (have c117b7 := c117b0; simp only [hl3_1, hl4_1] at c117b7))
       clear c117
       obtain ⟨y233, hy233⟩ : ∃ y_ : List Int, y_ = (([((rd x3_1 x29_2) / 16777216) % 256, ((rd x3_1 x29_2) / 65536) % 256, ((rd x3_1 x29_2) / 256) % 256, (rd x3_1 x29_2) % 256] : List Int)) := ⟨_, rfl⟩
       replace H : (if x28_2.length + y233.length < 140737488355328 then (palaverref02_Sum.l4 k2 x3_1 (x28_2 ++ y233) (wrap64 (x29_2 + 1))) else (none)) = some r := by first | (rw [hy233]; with_reducible exact H) | (have H2_ := (Option.bind_some _ _).symm.trans H; rw [hy233]; with_reducible exact H2_) | (have H2_ := (Option.bind_some _ _).symm.trans H; with_reducible exact H2_) | with_reducible exact H | (rw [hy233]; exact H) | exact H
       have Ny233 := Aside0.mk hy233
       clear hy233
       by_cases c118 : x28_2.length + y233.length < 140737488355328
       rotate_left
       ·rw [if_neg c118] at H
        exact absurd H (by simp)
       rw [if_pos c118] at H
       have LMc118 := Aside0.mk c118
       clear c118
       obtain ⟨y236, hy236⟩ : ∃ y_ : List Int, y_ = (x28_2 ++ y233) := ⟨_, rfl⟩
       replace H : (palaverref02_Sum.l4 k2 x3_1 y236 (wrap64 (x29_2 + 1))) = some r := by first | (rw [hy236]; with_reducible exact H) | (have H2_ := (Option.bind_some _ _).symm.trans H; rw [hy236]; with_reducible exact H2_) | (have H2_ := (Option.bind_some _ _).symm.trans H; with_reducible exact H2_) | with_reducible exact H | (rw [hy236]; exact H) | exact H
       have Ny236 := Aside0.mk hy236
       clear hy236
       have H' := Aside0.mk H
       clear H
       try go_wp2
       have n0_ := Aside0.mk (Kd.R_drew HO_3.out)
       have n1_ := Aside0.mk (Kd.R_drew HO_28.out)
       have n2_ := Aside0.mk (below_drew1 HB.out)
       clear HO_3
       clear HO_28
       clear HB
       have HO_3 := n0_
       have HO_28 := n1_
       have HB := n2_
       clear n0_ n1_ n2_
       have qa229 : ((x29_2 : Int) < (8 : Int)) = True := eq_true (by have e_ : x3_1.length = 8 := od_ (by assumption); have h_ : (x29_2 : Int) < ((x3_1.length : Int) : Int) := od_ (by assumption); omega)
       have p229 : 0 ≤ (x29_2 : Int) := od_ (by assumption)
       have q229 : x29_2 < (x3_1.length : Int) := od_ (by assumption)
       obtain ⟨ad229, e229, hx229_0⟩ := Kd.at_int (Kd.R_reads' HO_3.out).2.2 x29_2 p229 q229
       obtain rfl : (⟨go5, 0, none⟩ : Addr) = ad229 := (by injection e229)
       (first | simp only [add_plain] at hx229_0 | simp only [add_at] at hx229_0 | simp only [Addr.add, Nat.zero_add] at hx229_0 | skip)
       replace p229 := eq_true p229
       replace q229 := eq_true q229
       have qa230 : ((x29_2 : Int) < (8 : Int)) = True := eq_true (by have e_ : x3_1.length = 8 := od_ (by assumption); have h_ : (x29_2 : Int) < ((x3_1.length : Int) : Int) := od_ (by assumption); omega)
       have p230 : 0 ≤ (x29_2 : Int) := od_ (by assumption)
       have q230 : x29_2 < (x3_1.length : Int) := od_ (by assumption)
       obtain ⟨ad230, e230, hx230_0⟩ := Kd.at_int (Kd.R_reads' HO_3.out).2.2 x29_2 p230 q230
       obtain rfl : (⟨go5, 0, none⟩ : Addr) = ad230 := (by injection e230)
       (first | simp only [add_plain] at hx230_0 | simp only [add_at] at hx230_0 | simp only [Addr.add, Nat.zero_add] at hx230_0 | skip)
       replace p230 := eq_true p230
       replace q230 := eq_true q230
       have qa231 : ((x29_2 : Int) < (8 : Int)) = True := eq_true (by have e_ : x3_1.length = 8 := od_ (by assumption); have h_ : (x29_2 : Int) < ((x3_1.length : Int) : Int) := od_ (by assumption); omega)
       have p231 : 0 ≤ (x29_2 : Int) := od_ (by assumption)
       have q231 : x29_2 < (x3_1.length : Int) := od_ (by assumption)
       obtain ⟨ad231, e231, hx231_0⟩ := Kd.at_int (Kd.R_reads' HO_3.out).2.2 x29_2 p231 q231
       obtain rfl : (⟨go5, 0, none⟩ : Addr) = ad231 := (by injection e231)
       (first | simp only [add_plain] at hx231_0 | simp only [add_at] at hx231_0 | simp only [Addr.add, Nat.zero_add] at hx231_0 | skip)
       replace p231 := eq_true p231
       replace q231 := eq_true q231
       have qa232 : ((x29_2 : Int) < (8 : Int)) = True := eq_true (by have e_ : x3_1.length = 8 := od_ (by assumption); have h_ : (x29_2 : Int) < ((x3_1.length : Int) : Int) := od_ (by assumption); omega)
       have p232 : 0 ≤ (x29_2 : Int) := od_ (by assumption)
       have q232 : x29_2 < (x3_1.length : Int) := od_ (by assumption)
       obtain ⟨ad232, e232, hx232_0⟩ := Kd.at_int (Kd.R_reads' HO_3.out).2.2 x29_2 p232 q232
       obtain rfl : (⟨go5, 0, none⟩ : Addr) = ad232 := (by injection e232)
       (first | simp only [add_plain] at hx232_0 | simp only [add_at] at hx232_0 | simp only [Addr.add, Nat.zero_add] at hx232_0 | skip)
       replace p232 := eq_true p232
       replace q232 := eq_true q232
       refine start_ (n := 23) (S := fun w' => w'.cell? ⟨go5, (x29_2).toNat, none⟩ = some (.int .u32 (rd x3_1 x29_2)) ∧ w'.cell? ⟨go5, (x29_2).toNat, none⟩ = some (.int .u32 (rd x3_1 x29_2)) ∧ w'.cell? ⟨go5, (x29_2).toNat, none⟩ = some (.int .u32 (rd x3_1 x29_2)) ∧ w'.cell? ⟨go5, (x29_2).toNat, none⟩ = some (.int .u32 (rd x3_1 x29_2))) (ds := [21]) #[false, false, false, false, false, false, false, false, false, false, false, false, false, false, false, false, false, false, false, false, false, false, false] (by kernel_rfl) rfl rfl ⟨hx229_0, hx230_0, hx231_0, hx232_0⟩ (fun hHeld => ?_); refine with_tabW palaverref02_Sum.tab43 palaverref02_Sum.bits43 (fun HT_ HW_ => ?_)
       generalize wr.drew = w119 at HO_3 HO_28 HB hx229_0 hx230_0 hx231_0 hx232_0 hHeld ⊢
       refine runs_ [(0, some 243), (1, some 244), (2, some 245), (6, some 249), (7, some 250), (11, some 254), (12, some 255), (16, some 259), (17, some 260)] ?_
       iterate 9 (refine pureL_ (v := ?_) (a' := ?_) rfl rfl (any_of HT_.out (by kernel_rfl)) (Or.inl ⟨by rfl, ?_⟩) ?_ ?_ (fun _ _ _ h => h); rotate_left; (intro w'; go_simp; with_reducible rfl); rotate_left; (simp only [pr_]; rfl))
       refine runsE_ ?_
       refine take_ (i := 3) (N := some 246) (v := ?_) (a' := ?_) #[true, true, true, true, false, false, true, true, false, false, false, true, true, false, false, false, true, true, false, false, false, false, false] rfl rfl (take_ofW HT_.out HW_.out (by kernel_rfl)) (fun _ _ _ h => h) (Or.inl ⟨by rfl, ?_⟩) hHeld ?_ ?_
       rotate_left
       ·rintro w' ⟨s0, s1, s2, s3⟩
        go_simp
        with_reducible rfl
       rotate_left
       ·simp only [pr_]
        rfl
       refine runs_ [(4, some 247), (5, some 248)] ?_
       iterate 2 (refine pureL_ (v := ?_) (a' := ?_) rfl rfl (any_of HT_.out (by kernel_rfl)) (Or.inl ⟨by rfl, ?_⟩) ?_ ?_ (fun _ _ _ h => h); rotate_left; (intro w'; go_simp; with_reducible rfl); rotate_left; (simp only [pr_]; rfl))
       refine runsE_ ?_
       refine take_ (i := 8) (N := some 251) (v := ?_) (a' := ?_) #[true, true, true, true, true, true, true, true, true, false, false, true, true, false, false, false, true, true, false, false, false, false, false] rfl rfl (take_ofW HT_.out HW_.out (by kernel_rfl)) (fun _ _ _ h => h) (Or.inl ⟨by rfl, ?_⟩) hHeld ?_ ?_
       rotate_left
       ·rintro w' ⟨s0, s1, s2, s3⟩
        go_simp
        with_reducible rfl
       rotate_left
       ·simp only [pr_]
        rfl
       refine runs_ [(9, some 252), (10, some 253)] ?_
       iterate 2 (refine pureL_ (v := ?_) (a' := ?_) rfl rfl (any_of HT_.out (by kernel_rfl)) (Or.inl ⟨by rfl, ?_⟩) ?_ ?_ (fun _ _ _ h => h); rotate_left; (intro w'; go_simp; with_reducible rfl); rotate_left; (simp only [pr_]; rfl))
       refine runsE_ ?_
       refine take_ (i := 13) (N := some 256) (v := ?_) (a' := ?_) #[true, true, true, true, true, true, true, true, true, true, true, true, true, true, false, false, true, true, false, false, false, false, false] rfl rfl (take_ofW HT_.out HW_.out (by kernel_rfl)) (fun _ _ _ h => h) (Or.inl ⟨by rfl, ?_⟩) hHeld ?_ ?_
       rotate_left
       ·rintro w' ⟨s0, s1, s2, s3⟩
        go_simp
        with_reducible rfl
       rotate_left
       ·simp only [pr_]
        rfl
       refine runs_ [(14, some 257), (15, some 258)] ?_
       iterate 2 (refine pureL_ (v := ?_) (a' := ?_) rfl rfl (any_of HT_.out (by kernel_rfl)) (Or.inl ⟨by rfl, ?_⟩) ?_ ?_ (fun _ _ _ h => h); rotate_left; (intro w'; go_simp; with_reducible rfl); rotate_left; (simp only [pr_]; rfl))
       refine runsE_ ?_
       refine take_ (i := 18) (N := some 261) (v := ?_) (a' := ?_) #[true, true, true, true, true, true, true, true, true, true, true, true, true, true, true, true, true, true, true, false, false, false, false] rfl rfl (take_ofW HT_.out HW_.out (by kernel_rfl)) (fun _ _ _ h => h) (Or.inl ⟨by rfl, ?_⟩) hHeld ?_ ?_
       rotate_left
       ·rintro w' ⟨s0, s1, s2, s3⟩
        go_simp
        with_reducible rfl
       rotate_left
       ·simp only [pr_]
        rfl
       refine pure_ (i := 19) (N := some 262) (v := ?_) (a' := ?_) #[true, true, true, true, true, true, true, true, true, true, true, true, true, true, true, true, true, true, true, true, false, false, false] rfl rfl (any_of HT_.out (by kernel_rfl)) (fun _ _ _ h => h) (Or.inl ⟨by rfl, ?_⟩) ?_ ?_
       rotate_left
       ·intro w'
        go_simp
        with_reducible rfl
       rotate_left
       ·simp only [pr_]
        rfl
       refine one_ (i := 20) (N := some 263) #[true, true, true, true, true, true, true, true, true, true, true, true, true, true, true, true, true, true, true, true, true, false, false] rfl rfl (one_of HT_.out (by kernel_rfl)) (by decide) (fun K hK => ?_)
       refine Kd.R_lit_step (Kd.int .u8) _ 5 ?hg (N := 263) ?hd (xs := ([((rd x3_1 x29_2) / 16777216) % 256, ((rd x3_1 x29_2) / 65536) % 256, ((rd x3_1 x29_2) / 256) % 256, (rd x3_1 x29_2) % 256] : List Int)) (inner := [.int .u8 (((rd x3_1 x29_2) / 16777216) % 256), .int .u8 (((rd x3_1 x29_2) / 65536) % 256), .int .u8 (((rd x3_1 x29_2) / 256) % 256), .int .u8 ((rd x3_1 x29_2) % 256)]) (ok := fun _ => True) (okp := fun _ => True) ?hr ?hp (fun _ hk => hk) trivial (Below.refl _ _) (Nat.le_refl _) (by simp) ?_; (case hd => rfl); (case hg => rfl); (case hr => first | (go_simp; done) | (go_simp; rfl)); (case hp => exact (Reps.one (show Kd.M (Kd.int .u8) _ _ _ (((rd x3_1 x29_2) / 16777216) % 256) [.int .u8 (((rd x3_1 x29_2) / 16777216) % 256)] from rfl) (Reps.one (show Kd.M (Kd.int .u8) _ _ _ (((rd x3_1 x29_2) / 65536) % 256) [.int .u8 (((rd x3_1 x29_2) / 65536) % 256)] from rfl) (Reps.one (show Kd.M (Kd.int .u8) _ _ _ (((rd x3_1 x29_2) / 256) % 256) [.int .u8 (((rd x3_1 x29_2) / 256) % 256)] from rfl) (Reps.one (show Kd.M (Kd.int .u8) _ _ _ ((rd x3_1 x29_2) % 256) [.int .u8 ((rd x3_1 x29_2) % 256)] from rfl) (Reps.none _ _))))))
       intro v234 w120 ho121 hb hg_ hnew_
       have HS0_ := (hb.cell (World.block_lt_of_cell? _ _ (hHeld.1))).trans (hHeld.1)
       have HS1_ := (hb.cell (World.block_lt_of_cell? _ _ (hHeld.2.1))).trans (hHeld.2.1)
       have HS2_ := (hb.cell (World.block_lt_of_cell? _ _ (hHeld.2.2.1))).trans (hHeld.2.2.1)
       have HS3_ := (hb.cell (World.block_lt_of_cell? _ _ (hHeld.2.2.2))).trans (hHeld.2.2.2)
       clear hg_ hnew_
       (first | rw [← Ny233.out] at ho121 | (simp only [Int.reduceToNat] at ho121; rw [← Ny233.out] at ho121))
       have n0_ := Aside0.mk (Kd.R_below (by (with_reducible repeat (first | apply Kd.R_alloc | apply Kd.R_drewN | apply Kd.R_drew)); exact HO_3.out) hb)
       have n1_ := Aside0.mk (Kd.R_elder' (by (with_reducible repeat (first | apply Kd.R_alloc | apply Kd.R_drewN | apply Kd.R_drew)); exact HO_28.out) (Kd.R_base ho121) hb)
       have n2_ := Aside0.mk (Kd.R_lower (Kd.R_new' ho121 (Kd.R_lt (by (with_reducible repeat (first | apply Kd.R_alloc | apply Kd.R_drewN | apply Kd.R_drew)); exact HO_28.out))) (below_size (by repeat (first | (with_reducible first | exact HB.out | apply lA_ | apply lN_ | apply lD_) | exact HB.out))))
       have n3_ := Aside0.mk (below_step (by repeat (first | (with_reducible first | exact HB.out | apply lA_ | apply lN_ | apply lD_) | exact HB.out)) hb)
       clear HO_3
       clear HO_28
       clear HB
       have HO_3 := n0_
       have HO_28 := n1_
       have HO235 := n2_
       have HB := n3_
       clear n0_ n1_ n2_ n3_
       clear hb ho121
       obtain ⟨Ao123, co123, eo123⟩ := Kd.R_slice HO235.out
       (first | subst eo123 | (injection eo123 with f1_ f2_ f3_; have f4_ := f1_.symm; have f5_ := f3_.symm; clear f1_ f2_ f3_; subst f4_; subst f5_))
       refine hK.out _ _ ⟨HS0_, HS1_, HS2_, HS3_⟩ (fun hHeld => ?_)
       clear hK K
       refine norm_ (a' := ?_) ?_ ?_
       rotate_left
       ·show Act.put _ (some 263) _ = _
        simp only [pr_]
        rfl
       refine last_ (i := 21) (N := some 264) #[true, true, true, true, true, true, true, true, true, true, true, true, true, true, true, true, true, true, true, true, true, true, false] rfl rfl (one_of HT_.out (by kernel_rfl)) (by decide) (fun K hK => ?_)
       refine Kd.R_append_rows_step (Kd.int .u8) (w0 := w) w.heap.size (by rfl) (.tmp 243) (.tmp 263) 42 5 (.int .u8 0) 1 rfl Tryd.underlying42 info5 rfl (by decide) (by omega) u28 x28_2 y233 _ _ _ (fun k_ => some k_ ≠ (.slice Ao123 y233.length co123 : Value).ownBlock) (fun _ => False) rfl rfl ?aO ?aR (fun _ _ h => h) (fun _ h => h.elim) ?aF ?aB ?aS ?aL ?_
       (case aR => repeat (first | exact (Kd.R_reads' HO235.out).2.2 | (with_reducible refine Kd.C_alloc ?_ _) | (with_reducible refine Kd.C_drewN ?_ _) | (with_reducible refine Kd.C_drew ?_)))
       (case aB => exact (by repeat (first | (with_reducible first | exact HB.out | apply lA_ | apply lN_ | apply lD_) | exact HB.out)))
       (case aF => exact (fun k_ hk => Kd.fresh' (Kd.R_lt (by (with_reducible repeat (first | apply Kd.R_alloc | apply Kd.R_drewN | apply Kd.R_drew)); exact HO235.out)) k_ hk))
       (case aO => exact (by (with_reducible repeat (first | apply Kd.R_alloc | apply Kd.R_drewN | apply Kd.R_drew)); exact Kd.R_mono HO_28.out (fun _ hk => hk.2)))
       (case aS => exact (below_size (by repeat (first | (with_reducible first | exact HB.out | apply lA_ | apply lN_ | apply lD_) | exact HB.out))))
       (case aL => have := LMc118.out; omega)
       intro v237 w122 ho hb hg hat
       rw [← Ny236.out] at ho
       have n0_ := Aside0.mk (Kd.R_over' (by (with_reducible repeat (first | apply Kd.R_alloc | apply Kd.R_drewN | apply Kd.R_drew)); exact HO_3.out) (Kd.R_typed (by (with_reducible repeat (first | apply Kd.R_alloc | apply Kd.R_drewN | apply Kd.R_drew)); exact HO_28.out)) (by decide) hg)
       have n1_ := Aside0.mk (Kd.R_after (ok := (fun _ => True)) (by (with_reducible repeat (first | apply Kd.R_alloc | apply Kd.R_drewN | apply Kd.R_drew)); exact HO235.out) hg hat)
       have n2_ := Aside0.mk (hb)
       have n3_ := Aside0.mk (ho)
       clear HO_3
       clear HO235
       clear HB
       clear HO_28
       have HO_3 := n0_
       have HO235 := n1_
       have HB := n2_
       have HO238 := n3_
       clear n0_ n1_ n2_ n3_
       clear ho hb hg hat
       refine hK.out _ _ ?_
       clear hK K
       refine norm_ (a' := ?_) ?_ ?_
       rotate_left
       ·show Act.put _ (some 264) _ = _
        simp only [pr_]
        rfl
       refine pure_ (i := 22) (N := some 28) (v := ?_) (a' := ?_) #[true, true, true, true, true, true, true, true, true, true, true, true, true, true, true, true, true, true, true, true, true, true, true] rfl rfl (any_of HT_.out (by kernel_rfl)) (fun _ _ _ h => h) (Or.inl ⟨by rfl, ?_⟩) ?_ ?_
       rotate_left
       ·intro w'
        go_simp
        with_reducible rfl
       rotate_left
       ·simp only [pr_]
        rfl
       refine done_ (done_of HT_.out (by kernel_rfl)) ?_
       try go_wp2
       go_roundg k2
       case measure => have := HK1.out; have := HK2.out; omega
       case rel => exact ⟨(y236), (wrap64 (x29_2 + 1)), (by first | rfl | (simp; done) | (simp [*]; done) | (refine congrArg (Value.int _) ?_; first | omega | (unfold wrap64; omega))), H', ⟨by have := HK1.out; have := HK2.out; omega⟩, ⟨by (try simp only [hl3_1]); (try simp only [hl4_1]); (with_reducible repeat (first | apply Kd.R_alloc | apply Kd.R_drewN | apply Kd.R_drew)); exact HO_3.out⟩, ⟨by (try simp only [hl3_1]); (try simp only [hl4_1]); (with_reducible repeat (first | apply Kd.R_alloc | apply Kd.R_drewN | apply Kd.R_drew)); exact Kd.R_mono HO238.out (fun _ hk => trivial)⟩, ⟨by repeat (first | (with_reducible first | exact HB.out | apply lA_ | apply lN_ | apply lD_) | exact HB.out)⟩⟩
      ·rw [if_neg c115] at H
       exact absurd H (by simp)
      ⟩
      exact inferInstanceAs _
     rw [if_neg c114] at H
     have c114b0 : decide (x29_2 < 8) = false := decide_eq_false c114
     (try (have c114b7 := c114b0; simp only [hl3_1, hl4_1] at c114b7))
     clear c114
     obtain rfl := Option.some.inj H
     have hcv124 := own_string (P := Tryd.prog) Tryd.underlying42 Tryd.underlying5 Tryd.underlying9 (Kd.own_of_R HO_28.out)
     go_wp2
     go_ret
     exact ⟨by first | rfl | (simp [errW_none, errW_some] <;> rfl) | (simp [*, errW_none, errW_some] <;> rfl), by repeat (first | (with_reducible first | exact HB.out | apply lA_ | apply lN_ | apply lD_) | exact HB.out)⟩
   ⟩
   exact inferInstanceAs _

end Go.Proofs.YtmedpnclkbkiiaaDoor.PP
