-- WRITTEN BY a program of this work (wip/ownprint.py), for this seat
import Derived.Test.YtmedpnclkbkiiaaDoorPPx0
import Derived.Test.YtmedpnclkbkiiaaDoorPPx2
namespace Go.Proofs.YtmedpnclkbkiiaaDoor.PP
open Go.RowKit Go.Proofs.YtmedpnclkbkiiaaDoorW.PrintWords Go.Proofs.YtmedpnclkbkiiaaDoorW.PrintLast Go.Proofs.YtmedpnclkbkiiaaDoorW.PrintMore
attribute [local go_sem] max2_int min2_int max_two min_two max_three min_three max_four min_four   -- for this text's walks alone
set_option linter.unusedVariables false
set_option linter.unusedSimpArgs false

/-! ### sha_state_block: function 73 -/
mutual
def sha_state_block.l0 : Nat → List Int → ByteArray → List Int → Int → Option (List Int)
 | 0, _, _, _, _ => none
 | k + 1, x0, x1, x4, x22 => if x22 < 16 then (if 0 ≤ (wrap64 (4 * x22)) then (if (wrap64 (4 * x22)) < (x1.size : Int) then (if 0 ≤ (wrap64 ((wrap64 (4 * x22)) + 1)) then (if (wrap64 ((wrap64 (4 * x22)) + 1)) < (x1.size : Int) then (if 0 ≤ (wrap64 ((wrap64 (4 * x22)) + 2)) then (if (wrap64 ((wrap64 (4 * x22)) + 2)) < (x1.size : Int) then (if 0 ≤ (wrap64 ((wrap64 (4 * x22)) + 3)) then (if (wrap64 ((wrap64 (4 * x22)) + 3)) < (x1.size : Int) then (if x4.length = 64 then (if 0 ≤ x22 then (if x22 < (x4.length : Int) then (sha_state_block.l0 k x0 x1 (x4.set (x22 : Int).toNat (Go.bits .or .u32 (Go.bits .or .u32 (Go.bits .or .u32 ((((bt x1 (wrap64 (4 * x22))) % 4294967296) * 16777216) % 4294967296) ((((bt x1 (wrap64 ((wrap64 (4 * x22)) + 1))) % 4294967296) * 65536) % 4294967296)) ((((bt x1 (wrap64 ((wrap64 (4 * x22)) + 2))) % 4294967296) * 256) % 4294967296)) ((bt x1 (wrap64 ((wrap64 (4 * x22)) + 3))) % 4294967296))) (wrap64 (x22 + 1))) else (none)) else (none)) else (none)) else (none)) else (none)) else (none)) else (none)) else (none)) else (none)) else (none)) else (none)) else (sha_state_block.l1 k x0 x4 16)
def sha_state_block.l1 : Nat → List Int → List Int → Int → Option (List Int)
 | 0, _, _, _ => none
 | k + 1, x0, x4, x6 => if x6 < 64 then (if x4.length = 64 then (if 0 ≤ (wrap64 (x6 - 15)) then (if (wrap64 (x6 - 15)) < (x4.length : Int) then (if 0 ≤ (wrap64 (x6 - 2)) then (if (wrap64 (x6 - 2)) < (x4.length : Int) then (if 0 ≤ (wrap64 (x6 - 16)) then (if (wrap64 (x6 - 16)) < (x4.length : Int) then (if 0 ≤ (wrap64 (x6 - 7)) then (if (wrap64 (x6 - 7)) < (x4.length : Int) then ((bits_RotateLeft32.f (rd x4 (wrap64 (x6 - 15))) (-7)).bind fun t132 => ((bits_RotateLeft32.f (rd x4 (wrap64 (x6 - 15))) (-18)).bind fun t133 => ((bits_RotateLeft32.f (rd x4 (wrap64 (x6 - 2))) (-17)).bind fun t134 => ((bits_RotateLeft32.f (rd x4 (wrap64 (x6 - 2))) (-19)).bind fun t135 => (if 0 ≤ x6 then (if x6 < (x4.length : Int) then (sha_state_block.l1 k x0 (x4.set (x6 : Int).toNat (((((rd x4 (wrap64 (x6 - 16))) + (rd x4 (wrap64 (x6 - 7)))) + (Go.bits .xor .u32 (Go.bits .xor .u32 t132 t133) ((rd x4 (wrap64 (x6 - 15))) / 8))) + (Go.bits .xor .u32 (Go.bits .xor .u32 t134 t135) ((rd x4 (wrap64 (x6 - 2))) / 1024))) % 4294967296)) (wrap64 (x6 + 1))) else (none)) else (none)))))) else (none)) else (none)) else (none)) else (none)) else (none)) else (none)) else (none)) else (none)) else (none)) else (if x0.length = 8 then (if 0 < (x0.length : Int) then (if 1 < (x0.length : Int) then (if 2 < (x0.length : Int) then (if 3 < (x0.length : Int) then (if 4 < (x0.length : Int) then (if 5 < (x0.length : Int) then (if 6 < (x0.length : Int) then (if 7 < (x0.length : Int) then (sha_state_block.l2 k x0 x4 (rd x0 0) (rd x0 1) (rd x0 2) (rd x0 3) (rd x0 4) (rd x0 5) (rd x0 6) (rd x0 7) 0) else (none)) else (none)) else (none)) else (none)) else (none)) else (none)) else (none)) else (none)) else (none))
def sha_state_block.l2 : Nat → List Int → List Int → Int → Int → Int → Int → Int → Int → Int → Int → Int → Option (List Int)
 | 0, _, _, _, _, _, _, _, _, _, _, _ => none
 | k + 1, x0, x4, x9, x10, x11, x12, x13, x14, x15, x16, x130 => if x130 < 64 then ((bits_RotateLeft32.f x13 (-6)).bind fun t145 => ((bits_RotateLeft32.f x13 (-11)).bind fun t146 => ((bits_RotateLeft32.f x13 (-25)).bind fun t147 => (if keysL.length = 64 then (if 0 ≤ x130 then (if x130 < (keysL.length : Int) then (if x4.length = 64 then (if x130 < (x4.length : Int) then ((bits_RotateLeft32.f x9 (-2)).bind fun t150 => ((bits_RotateLeft32.f x9 (-13)).bind fun t151 => ((bits_RotateLeft32.f x9 (-22)).bind fun t152 => (sha_state_block.l2 k x0 x4 ((((((x16 + (Go.bits .xor .u32 (Go.bits .xor .u32 t145 t146) t147)) + (Go.bits .xor .u32 (Go.bits .and .u32 x13 x14) (Go.bits .and .u32 (Go.bits .xor .u32 4294967295 x13) x15))) + (rd keysL x130)) + (rd x4 x130)) + ((Go.bits .xor .u32 (Go.bits .xor .u32 t150 t151) t152) + (Go.bits .xor .u32 (Go.bits .xor .u32 (Go.bits .and .u32 x9 x10) (Go.bits .and .u32 x9 x11)) (Go.bits .and .u32 x10 x11)))) % 4294967296) x9 x10 x11 ((x12 + ((((x16 + (Go.bits .xor .u32 (Go.bits .xor .u32 t145 t146) t147)) + (Go.bits .xor .u32 (Go.bits .and .u32 x13 x14) (Go.bits .and .u32 (Go.bits .xor .u32 4294967295 x13) x15))) + (rd keysL x130)) + (rd x4 x130))) % 4294967296) x13 x14 x15 (wrap64 (x130 + 1)))))) else (none)) else (none)) else (none)) else (none)) else (none))))) else (sha_state_block.l3 k x0 x9 x10 x11 x12 x13 x14 x15 x16 0)
def sha_state_block.l3 : Nat → List Int → Int → Int → Int → Int → Int → Int → Int → Int → Int → Option (List Int)
 | 0, _, _, _, _, _, _, _, _, _, _ => none
 | k + 1, x0, x9, x10, x11, x12, x13, x14, x15, x16, x202 => if x202 < 8 then (if 0 ≤ x202 then (if x0.length = 8 then (if 0 < (x0.length : Int) then (if x202 < (x0.length : Int) then (sha_state_block.l3 k (x0.set (x202 : Int).toNat (((rd x0 x202) + (rd [x9, x10, x11, x12, x13, x14, x15, x16] x202)) % 4294967296)) x9 x10 x11 x12 x13 x14 x15 x16 (wrap64 (x202 + 1))) else (none)) else (none)) else (none)) else (none)) else (some x0)
end
def sha_state_block.f (k : Nat) (l0 : List Int) (a1 : ByteArray) : Option (List Int) := sha_state_block.l0 k l0 a1 (List.replicate 64 0) 0
theorem sha_state_block.mono_l : ∀ k, (∀ y0 y1 y2 y3, LeO (sha_state_block.l0 k y0 y1 y2 y3) (sha_state_block.l0 (k + 1) y0 y1 y2 y3)) ∧ (∀ y0 y1 y2, LeO (sha_state_block.l1 k y0 y1 y2) (sha_state_block.l1 (k + 1) y0 y1 y2)) ∧ (∀ y0 y1 y2 y3 y4 y5 y6 y7 y8 y9 y10, LeO (sha_state_block.l2 k y0 y1 y2 y3 y4 y5 y6 y7 y8 y9 y10) (sha_state_block.l2 (k + 1) y0 y1 y2 y3 y4 y5 y6 y7 y8 y9 y10)) ∧ (∀ y0 y1 y2 y3 y4 y5 y6 y7 y8 y9, LeO (sha_state_block.l3 k y0 y1 y2 y3 y4 y5 y6 y7 y8 y9) (sha_state_block.l3 (k + 1) y0 y1 y2 y3 y4 y5 y6 y7 y8 y9))
 | 0 => ⟨fun _ _ _ _ r h => by simp [sha_state_block.l0] at h, fun _ _ _ r h => by simp [sha_state_block.l1] at h, fun _ _ _ _ _ _ _ _ _ _ _ r h => by simp [sha_state_block.l2] at h, fun _ _ _ _ _ _ _ _ _ _ r h => by simp [sha_state_block.l3] at h⟩
 | k + 1 => by
  obtain ⟨ih0, ih1, ih2, ih3⟩ := sha_state_block.mono_l k
  refine ⟨?_, ?_, ?_, ?_⟩
  ·intro y0 y1 y2 y3
   unfold sha_state_block.l0
   repeat' first
   | (with_reducible exact ih0 _ _ _ _)
   | (with_reducible exact ih1 _ _ _)
   | (with_reducible exact ih2 _ _ _ _ _ _ _ _ _ _ _)
   | (with_reducible exact ih3 _ _ _ _ _ _ _ _ _ _)
   | (with_reducible exact LeO.refl _)
   | (with_reducible exact LeO.none _)
   | (with_reducible refine LeO.ite ?_ ?_)
   | (with_reducible refine LeO.bind ?_ (fun _ => ?_))
   | exact ih0 _ _ _ _
   | exact ih1 _ _ _
   | exact ih2 _ _ _ _ _ _ _ _ _ _ _
   | exact ih3 _ _ _ _ _ _ _ _ _ _
   | exact LeO.none _
   | refine LeO.ite ?_ ?_
   | refine LeO.bind ?_ (fun _ => ?_)
  ·intro y0 y1 y2
   unfold sha_state_block.l1
   repeat' first
   | (with_reducible exact ih0 _ _ _ _)
   | (with_reducible exact ih1 _ _ _)
   | (with_reducible exact ih2 _ _ _ _ _ _ _ _ _ _ _)
   | (with_reducible exact ih3 _ _ _ _ _ _ _ _ _ _)
   | (with_reducible exact LeO.refl _)
   | (with_reducible exact LeO.none _)
   | (with_reducible refine LeO.ite ?_ ?_)
   | (with_reducible refine LeO.bind ?_ (fun _ => ?_))
   | exact ih0 _ _ _ _
   | exact ih1 _ _ _
   | exact ih2 _ _ _ _ _ _ _ _ _ _ _
   | exact ih3 _ _ _ _ _ _ _ _ _ _
   | exact LeO.none _
   | refine LeO.ite ?_ ?_
   | refine LeO.bind ?_ (fun _ => ?_)
  ·intro y0 y1 y2 y3 y4 y5 y6 y7 y8 y9 y10
   unfold sha_state_block.l2
   repeat' first
   | (with_reducible exact ih0 _ _ _ _)
   | (with_reducible exact ih1 _ _ _)
   | (with_reducible exact ih2 _ _ _ _ _ _ _ _ _ _ _)
   | (with_reducible exact ih3 _ _ _ _ _ _ _ _ _ _)
   | (with_reducible exact LeO.refl _)
   | (with_reducible exact LeO.none _)
   | (with_reducible refine LeO.ite ?_ ?_)
   | (with_reducible refine LeO.bind ?_ (fun _ => ?_))
   | exact ih0 _ _ _ _
   | exact ih1 _ _ _
   | exact ih2 _ _ _ _ _ _ _ _ _ _ _
   | exact ih3 _ _ _ _ _ _ _ _ _ _
   | exact LeO.none _
   | refine LeO.ite ?_ ?_
   | refine LeO.bind ?_ (fun _ => ?_)
  intro y0 y1 y2 y3 y4 y5 y6 y7 y8 y9
  unfold sha_state_block.l3
  repeat' first
  | (with_reducible exact ih0 _ _ _ _)
  | (with_reducible exact ih1 _ _ _)
  | (with_reducible exact ih2 _ _ _ _ _ _ _ _ _ _ _)
  | (with_reducible exact ih3 _ _ _ _ _ _ _ _ _ _)
  | (with_reducible exact LeO.refl _)
  | (with_reducible exact LeO.none _)
  | (with_reducible refine LeO.ite ?_ ?_)
  | (with_reducible refine LeO.bind ?_ (fun _ => ?_))
  | exact ih0 _ _ _ _
  | exact ih1 _ _ _
  | exact ih2 _ _ _ _ _ _ _ _ _ _ _
  | exact ih3 _ _ _ _ _ _ _ _ _ _
  | exact LeO.none _
  | refine LeO.ite ?_ ?_
  | refine LeO.bind ?_ (fun _ => ?_)
theorem sha_state_block.mono : ∀ a0 a1 k, LeO (sha_state_block.f k a0 a1) (sha_state_block.f (k + 1) a0 a1) := by
 intro a0 a1 k
 obtain ⟨ih0, ih1, ih2, ih3⟩ := sha_state_block.mono_l k
 unfold sha_state_block.f
 repeat' first
  | (with_reducible exact ih0 _ _ _ _)
  | (with_reducible exact ih1 _ _ _)
  | (with_reducible exact ih2 _ _ _ _ _ _ _ _ _ _ _)
  | (with_reducible exact ih3 _ _ _ _ _ _ _ _ _ _)
  | (with_reducible exact LeO.refl _)
  | (with_reducible exact LeO.none _)
  | (with_reducible refine LeO.ite ?_ ?_)
  | (with_reducible refine LeO.bind ?_ (fun _ => ?_))
  | exact ih0 _ _ _ _
  | exact ih1 _ _ _
  | exact ih2 _ _ _ _ _ _ _ _ _ _ _
  | exact ih3 _ _ _ _ _ _ _ _ _ _
  | exact LeO.none _
  | refine LeO.ite ?_ ?_
  | refine LeO.bind ?_ (fun _ => ?_)
def sha_state_block.T4 : Bool × List (List Nat × List Nat) := (true, [([], []), ([], []), ([], []), ([2], [2]), ([1, 3], [1, 3]), ([4], [4]), ([5], [5]), ([], []), ([], []), ([8], [8]), ([9], [9]), ([7, 10], [7, 10]), ([11], [11]), ([12], [12]), ([6, 13], [6, 13]), ([], []), ([], []), ([16], [16]), ([17], [17]), ([15, 18], [15, 18]), ([19], [19]), ([20], [20]), ([14, 21], [14, 21]), ([], []), ([], []), ([24], [24]), ([25], [25]), ([23, 26], [23, 26]), ([27], [27]), ([22, 28], [22, 28]), ([0, 0, 1, 2, 3, 4, 5, 6, 7, 8, 9, 10, 11, 12, 13, 14, 15, 16, 17, 18, 19, 20, 21, 22, 23, 24, 25, 26, 27, 28, 29], [0]), ([30, 29, 0, 1, 2, 3, 4, 5, 6, 7, 8, 9, 10, 11, 12, 13, 14, 15, 16, 17, 18, 19, 20, 21, 22, 23, 24, 25, 26, 27, 28, 29], [29, 30])])
def sha_state_block.B4 : List Nat := [0, 0, 0, 4, 14, 30, 62, 0, 0, 256, 768, 1920, 3968, 8064, 16382, 0, 0, 65536, 196608, 491520, 1015808, 2064384, 4194302, 0, 0, 16777216, 50331648, 125829120, 260046848, 536870910, 1073741823, 2147483647]
theorem sha_state_block.tab4 : rtab .any (opsOf Tryd.f73 4) = sha_state_block.T4 := by kernel_rfl
theorem sha_state_block.bits4 : waitsOk sha_state_block.T4.2 sha_state_block.B4 = true := by kernel_rfl
def sha_state_block.T9 : Bool × List (List Nat × List Nat) := (true, [([], []), ([0], [0]), ([1], [1]), ([2], [2]), ([], []), ([4], [4]), ([5], [5]), ([6], [6]), ([3, 0, 1, 2, 3], [3]), ([7, 8, 0, 1, 2, 3, 4, 5, 6, 7, 8], [7])])
def sha_state_block.B9 : List Nat := [0, 1, 3, 7, 0, 16, 48, 112, 15, 511]
theorem sha_state_block.tab9 : rtab .any (opsOf Tryd.f73 9) = sha_state_block.T9 := by kernel_rfl
theorem sha_state_block.bits9 : waitsOk sha_state_block.T9.2 sha_state_block.B9 = true := by kernel_rfl
def sha_state_block.T10 : Bool × List (List Nat × List Nat) := (true, [([], []), ([], []), ([1], [1]), ([2], [2]), ([3], [3]), ([], []), ([5], [5]), ([6], [6]), ([7], [7]), ([4, 8], [4, 8]), ([], []), ([10], [10]), ([], []), ([12, 11], [12]), ([11, 13], [11, 13]), ([], []), ([15], [15]), ([14, 16], [14, 16]), ([9, 17], [9, 17]), ([], []), ([19, 13], [19]), ([], []), ([21, 20], [21]), ([20, 22], [20, 22]), ([], []), ([24], [24]), ([23, 25], [23, 25]), ([18, 26], [18, 26]), ([0, 0, 1, 2, 3, 4, 5, 6, 7, 8, 9, 10, 11, 12, 13, 14, 15, 16, 17, 18, 19, 20, 21, 22, 23, 24, 25, 26, 27], [0]), ([28, 27, 22, 0, 1, 2, 3, 4, 5, 6, 7, 8, 9, 10, 11, 12, 13, 14, 15, 16, 17, 18, 19, 20, 21, 22, 23, 24, 25, 26, 27], [27, 28])])
def sha_state_block.B10 : List Nat := [0, 0, 2, 6, 14, 0, 32, 96, 224, 510, 0, 1024, 0, 7168, 15360, 0, 32768, 130048, 262142, 0, 539648, 0, 3685376, 7879680, 0, 16777216, 66599936, 134217726, 268435455, 536870911]
theorem sha_state_block.tab10 : rtab .any (opsOf Tryd.f73 10) = sha_state_block.T10 := by kernel_rfl
theorem sha_state_block.bits10 : waitsOk sha_state_block.T10.2 sha_state_block.B10 = true := by kernel_rfl
def sha_state_block.T11 : Bool × List (List Nat × List Nat) := (true, [([], []), ([0], [0]), ([1], [1]), ([2], [2]), ([], []), ([4], [4]), ([5], [5]), ([6], [6]), ([], []), ([8], [8]), ([9], [9]), ([10], [10]), ([], []), ([12], [12]), ([13], [13]), ([14], [14]), ([], []), ([16], [16]), ([17], [17]), ([18], [18]), ([], []), ([20], [20]), ([21], [21]), ([22], [22]), ([], []), ([24], [24]), ([25], [25]), ([26], [26]), ([], []), ([28], [28]), ([29], [29]), ([30], [30]), ([3, 0, 1, 2, 3], [3]), ([7, 32, 0, 1, 2, 3, 4, 5, 6, 7, 32], [7]), ([11, 33, 0, 1, 2, 3, 4, 5, 6, 7, 8, 9, 10, 11, 32, 33], [11]), ([15, 34, 0, 1, 2, 3, 4, 5, 6, 7, 8, 9, 10, 11, 12, 13, 14, 15, 32, 33, 34], [15]), ([19, 35, 0, 1, 2, 3, 4, 5, 6, 7, 8, 9, 10, 11, 12, 13, 14, 15, 16, 17, 18, 19, 32, 33, 34, 35], [19]), ([23, 36, 0, 1, 2, 3, 4, 5, 6, 7, 8, 9, 10, 11, 12, 13, 14, 15, 16, 17, 18, 19, 20, 21, 22, 23, 32, 33, 34, 35, 36], [23]), ([27, 37, 0, 1, 2, 3, 4, 5, 6, 7, 8, 9, 10, 11, 12, 13, 14, 15, 16, 17, 18, 19, 20, 21, 22, 23, 24, 25, 26, 27, 32, 33, 34, 35, 36, 37], [27]), ([31, 38, 0, 1, 2, 3, 4, 5, 6, 7, 8, 9, 10, 11, 12, 13, 14, 15, 16, 17, 18, 19, 20, 21, 22, 23, 24, 25, 26, 27, 28, 29, 30, 31, 32, 33, 34, 35, 36, 37, 38], [31])])
def sha_state_block.B11 : List Nat := [0, 1, 3, 7, 0, 16, 48, 112, 0, 256, 768, 1792, 0, 4096, 12288, 28672, 0, 65536, 196608, 458752, 0, 1048576, 3145728, 7340032, 0, 16777216, 50331648, 117440512, 0, 268435456, 805306368, 1879048192, 15, 4294967551, 12884905983, 30064836607, 64425558015, 133160763391, 270851375103, 549755813887]
theorem sha_state_block.tab11 : rtab .any (opsOf Tryd.f73 11) = sha_state_block.T11 := by kernel_rfl
theorem sha_state_block.bits11 : waitsOk sha_state_block.T11.2 sha_state_block.B11 = true := by kernel_rfl
def sha_state_block.T15 : Bool × List (List Nat × List Nat) := (true, [([], []), ([], []), ([1], [1]), ([], []), ([3, 2], [3]), ([2, 4], [2, 4]), ([], []), ([6, 4], [6]), ([5, 7], [5, 7]), ([0, 8], [0, 8]), ([], []), ([], []), ([10, 11], [10, 11]), ([], []), ([13], [13]), ([], []), ([14, 15], [14, 15]), ([12, 16], [12, 16]), ([9, 17], [9, 17]), ([], []), ([19], [19]), ([20], [20]), ([18, 21], [18, 21]), ([], []), ([23], [23]), ([24], [24]), ([22, 25], [22, 25]), ([26, 7, 0, 1, 2, 3, 4, 5, 6, 7, 8, 9, 10, 11, 12, 13, 14, 15, 16, 17, 18, 19, 20, 21, 22, 23, 24, 25, 26], [26])])
def sha_state_block.B15 : List Nat := [0, 0, 2, 0, 14, 30, 0, 94, 254, 511, 0, 0, 3072, 0, 8192, 0, 57344, 130048, 262143, 0, 524288, 1572864, 4194303, 0, 8388608, 25165824, 67108863, 134217727]
theorem sha_state_block.tab15 : rtab .any (opsOf Tryd.f73 15) = sha_state_block.T15 := by kernel_rfl
theorem sha_state_block.bits15 : waitsOk sha_state_block.T15.2 sha_state_block.B15 = true := by kernel_rfl
def sha_state_block.T22 : Bool × List (List Nat × List Nat) := (true, [([], []), ([], []), ([0], [0]), ([2, 1], [1, 2]), ([3], [3]), ([], []), ([4, 5], [4, 5]), ([0], [0]), ([7, 1, 0, 1, 2, 3, 4, 5, 6], [1, 7]), ([8, 6, 0, 1, 2, 3, 4, 5, 6], [6, 8])])
def sha_state_block.B22 : List Nat := [0, 0, 1, 7, 15, 0, 63, 1, 255, 511]
theorem sha_state_block.tab22 : rtab .any (opsOf Tryd.f73 22) = sha_state_block.T22 := by kernel_rfl
theorem sha_state_block.bits22 : waitsOk sha_state_block.T22.2 sha_state_block.B22 = true := by kernel_rfl
set_option maxHeartbeats 64000000 in
set_option maxRecDepth 100000 in
theorem sha_state_block.calls (k : Nat) (P0_ : Nat → Prop) (u9000_ : Value) (l0 : List Int) (a1 : ByteArray) (r : List Int) (w0 w : World) (hB : Below w0.heap.size w0 w) (ho0 : Kd.R (Kd.int .u32) 106 w w0.heap.size P0_ u9000_ l0) (hrG : ∀ W_, Kept w W_ (fun k_ => P0_ k_) → Kd.C (Kd.int .u32) W_ (some ⟨0, 0, none⟩) keysL.length keysL) (h : sha_state_block.f k l0 a1 = some r) :
 Calls Tryd.prog 73 #[.pointer (ptrOf u9000_), .string a1] w fun e w' => e = .returned (.tuple #[]) ∧ Kd.R (Kd.int .u32) 106 w' w0.heap.size (fun k_ => (P0_ k_ ∨ w.heap.size ≤ k_)) u9000_ r ∧ Below w0.heap.size w0 w' ∧ Kept w w' (fun k_ => P0_ k_) := by
 have hu113 := Tryd.underlying113
 have hu105 := Tryd.underlying105
 have HO0 := Aside0.mk (show Kd.R (Kd.int .u32) 106 w w0.heap.size (fun k_ => (P0_ k_ ∨ w.heap.size ≤ k_)) u9000_ l0 from Kd.R_mono ho0 (fun k_ hk => (.inl hk)))
 have HRG := Aside0.mk hrG
 clear hrG
 have HK := Aside0.mk (Kept.refl w (fun k_ => P0_ k_))
 have HW0 := Aside0.mk hB.size
 have HB := Aside0.mk hB
 clear hB
 have H : (sha_state_block.l0 k l0 a1 (List.replicate 64 0) 0) = some r := h
 clear h
 obtain ⟨y124, hy124⟩ : ∃ y_ : List Int, y_ = (List.replicate 64 0) := ⟨_, rfl⟩
 replace H : (sha_state_block.l0 k l0 a1 y124 0) = some r := by first | (rw [hy124]; with_reducible exact H) | (have H2_ := (Option.bind_some _ _).symm.trans H; rw [hy124]; with_reducible exact H2_) | (have H2_ := (Option.bind_some _ _).symm.trans H; with_reducible exact H2_) | with_reducible exact H | (rw [hy124]; exact H) | exact H
 have Ny124 := Aside0.mk hy124
 clear hy124
 have H' := Aside0.mk H
 clear H
 go_enter Tryd.func73, Tryd.ntmps73
 go_wp2_with (first | ((with_reducible refine gate_dst (N := 4) rfl ?_); refine R_arr (Value.int .u32) (fun _ => rfl) _ 113 ?hg (N := 4) ?hd (List.replicate 64 0) ?hr (Below.refl _ _) (Nat.le_refl _) (by decide) ?_; (case hd => rfl); (case hg => rfl); (case hr => first | (go_simp; done) | (go_simp; rfl)); intro v125 w3 ho4 hb hg_ hnew_; clear hg_ hnew_; (first | rw [← Ny124.out] at ho4 | (simp only [Int.reduceToNat] at ho4; rw [← Ny124.out] at ho4)); have n0_ := Aside0.mk (Kd.R_below (by (with_reducible repeat (first | apply Kd.R_alloc | apply Kd.R_drewN | apply Kd.R_drew)); exact HO0.out) hb); have n1_ := Aside0.mk (Kd.R_lower (Kd.R_newM (M := fun k_ => (P0_ k_ ∨ w.heap.size ≤ k_)) ho4 (by first | exact HK.out.1 | exact (show Kept w _ (fun k_ => P0_ k_) from by repeat (first | (with_reducible first | exact HK.out | apply Kept.alloc | apply Kept.drewN | apply Kept.drew) | exact HK.out)).1) (fun k_ h_ => .inr h_)) (below_size (by repeat (first | (with_reducible first | exact HB.out | apply lA_ | apply lN_ | apply lD_) | exact HB.out)))); have n2_ := Aside0.mk (Kept.below (S := (fun k_ => P0_ k_)) (by repeat (first | (with_reducible first | exact HK.out | apply Kept.alloc | apply Kept.drewN | apply Kept.drew) | exact HK.out)) hb); have n3_ := Aside0.mk (below_step (by repeat (first | (with_reducible first | exact HB.out | apply lA_ | apply lN_ | apply lD_) | exact HB.out)) hb); clear HO0; clear HK; clear HB; have HO0 := n0_; have HO126 := n1_; have HK := n2_; have HB := n3_; clear n0_ n1_ n2_ n3_; clear hb ho4))
 go_loopg [22] k (fun kq v22 w' => ∃ (x4_1 : List Int) (x22_1 : Int), v22 = .int .i64 x22_1 ∧ Aside0 (sha_state_block.l0 kq l0 a1 x4_1 x22_1 = some r) ∧ Aside0 (kq ≤ k) ∧ Aside0 (Kd.R (Kd.int .u32) 106 w' w0.heap.size (fun k_ => (P0_ k_ ∨ w.heap.size ≤ k_)) u9000_ l0) ∧ Aside0 (Kd.R (Kd.int .u32) 113 w' w0.heap.size (fun k_ => (P0_ k_ ∨ w.heap.size ≤ k_)) v125 x4_1) ∧ Aside0 (Kept w w' (fun k_ => P0_ k_)) ∧ Aside0 (Below w0.heap.size w0 w'))
 case atStart => exact ⟨(y124), (0), (by first | rfl | (simp; done) | (simp [*]; done) | (refine congrArg (Value.int _) ?_; first | omega | (unfold wrap64; omega))), H', ⟨Nat.le_refl _⟩, ⟨by (with_reducible repeat (first | apply Kd.R_alloc | apply Kd.R_drewN | apply Kd.R_drew)); exact HO0.out⟩, ⟨by (with_reducible repeat (first | apply Kd.R_alloc | apply Kd.R_drewN | apply Kd.R_drew)); exact Kd.R_mono HO126.out (fun _ hk => hk.1)⟩, ⟨by repeat (first | (with_reducible first | exact HK.out | apply Kept.alloc | apply Kept.drewN | apply Kept.drew) | exact HK.out)⟩, ⟨by repeat (first | (with_reducible first | exact HB.out | apply lA_ | apply lN_ | apply lD_) | exact HB.out)⟩⟩
 case round =>
  clear H'
  (try clear p2)
  obtain ⟨x4_1, x22_1, rfl, HA, HK1, HO_0, HO_4, HK, HB⟩ := hrel
  cases gk with
  | zero => exact absurd HA.out (by simp [sha_state_block.l0])
  | succ k1 =>
   have H := HA.out
   clear HA
   simp only [sha_state_block.l0] at H
   by_cases c5 : x22_1 < 16
   ·rw [if_pos c5] at H
    have c5b0 : decide (x22_1 < 16) = true := decide_eq_true c5
    clear c5
    obtain ⟨ji6, hji6⟩ : ∃ j_ : Int, (wrap64 (4 * x22_1)) = j_ := ⟨_, rfl⟩
    replace H : (if 0 ≤ (ji6) then (if (ji6) < (a1.size : Int) then (if 0 ≤ (wrap64 ((ji6) + 1)) then (if (wrap64 ((ji6) + 1)) < (a1.size : Int) then (if 0 ≤ (wrap64 ((ji6) + 2)) then (if (wrap64 ((ji6) + 2)) < (a1.size : Int) then (if 0 ≤ (wrap64 ((ji6) + 3)) then (if (wrap64 ((ji6) + 3)) < (a1.size : Int) then (if x4_1.length = 64 then (if 0 ≤ x22_1 then (if x22_1 < (x4_1.length : Int) then (sha_state_block.l0 k1 l0 a1 (x4_1.set (x22_1 : Int).toNat (Go.bits .or .u32 (Go.bits .or .u32 (Go.bits .or .u32 ((((bt a1 (ji6)) % 4294967296) * 16777216) % 4294967296) ((((bt a1 (wrap64 ((ji6) + 1))) % 4294967296) * 65536) % 4294967296)) ((((bt a1 (wrap64 ((ji6) + 2))) % 4294967296) * 256) % 4294967296)) ((bt a1 (wrap64 ((ji6) + 3))) % 4294967296))) (wrap64 (x22_1 + 1))) else (none)) else (none)) else (none)) else (none)) else (none)) else (none)) else (none)) else (none)) else (none)) else (none)) else (none)) = some r := by first | (rw [hji6] at H; exact H) | (simp only [hji6] at H ⊢; exact H)
    have hji6w : (IntKind.i64.wrap (4 * x22_1)) = ji6 := (i64_w _).trans hji6
    by_cases c7 : 0 ≤ (ji6)
    rotate_left
    ·rw [if_neg c7] at H
     exact absurd H (by simp)
    rw [if_pos c7] at H
    have c7b0 : decide (0 ≤ (ji6)) = true := decide_eq_true c7
    clear c7
    by_cases c8 : (ji6) < (a1.size : Int)
    rotate_left
    ·rw [if_neg c8] at H
     exact absurd H (by simp)
    rw [if_pos c8] at H
    have c8b0 : decide ((ji6) < (a1.size : Int)) = true := decide_eq_true c8
    clear c8
    obtain ⟨ji10, hji10⟩ : ∃ j_ : Int, (wrap64 ((ji6) + 1)) = j_ := ⟨_, rfl⟩
    replace H : (if 0 ≤ (ji10) then (if (ji10) < (a1.size : Int) then (if 0 ≤ (wrap64 ((ji6) + 2)) then (if (wrap64 ((ji6) + 2)) < (a1.size : Int) then (if 0 ≤ (wrap64 ((ji6) + 3)) then (if (wrap64 ((ji6) + 3)) < (a1.size : Int) then (if x4_1.length = 64 then (if 0 ≤ x22_1 then (if x22_1 < (x4_1.length : Int) then (sha_state_block.l0 k1 l0 a1 (x4_1.set (x22_1 : Int).toNat (Go.bits .or .u32 (Go.bits .or .u32 (Go.bits .or .u32 ((((bt a1 (ji6)) % 4294967296) * 16777216) % 4294967296) ((((bt a1 (ji10)) % 4294967296) * 65536) % 4294967296)) ((((bt a1 (wrap64 ((ji6) + 2))) % 4294967296) * 256) % 4294967296)) ((bt a1 (wrap64 ((ji6) + 3))) % 4294967296))) (wrap64 (x22_1 + 1))) else (none)) else (none)) else (none)) else (none)) else (none)) else (none)) else (none)) else (none)) else (none)) = some r := by first | (rw [hji10] at H; exact H) | (simp only [hji10] at H ⊢; exact H)
    have hji10w : (IntKind.i64.wrap ((ji6) + 1)) = ji10 := (i64_w _).trans hji10
    by_cases c11 : 0 ≤ (ji10)
    rotate_left
    ·rw [if_neg c11] at H
     exact absurd H (by simp)
    rw [if_pos c11] at H
    have c11b0 : decide (0 ≤ (ji10)) = true := decide_eq_true c11
    clear c11
    by_cases c12 : (ji10) < (a1.size : Int)
    rotate_left
    ·rw [if_neg c12] at H
     exact absurd H (by simp)
    rw [if_pos c12] at H
    have c12b0 : decide ((ji10) < (a1.size : Int)) = true := decide_eq_true c12
    clear c12
    obtain ⟨ji14, hji14⟩ : ∃ j_ : Int, (wrap64 ((ji6) + 2)) = j_ := ⟨_, rfl⟩
    replace H : (if 0 ≤ (ji14) then (if (ji14) < (a1.size : Int) then (if 0 ≤ (wrap64 ((ji6) + 3)) then (if (wrap64 ((ji6) + 3)) < (a1.size : Int) then (if x4_1.length = 64 then (if 0 ≤ x22_1 then (if x22_1 < (x4_1.length : Int) then (sha_state_block.l0 k1 l0 a1 (x4_1.set (x22_1 : Int).toNat (Go.bits .or .u32 (Go.bits .or .u32 (Go.bits .or .u32 ((((bt a1 (ji6)) % 4294967296) * 16777216) % 4294967296) ((((bt a1 (ji10)) % 4294967296) * 65536) % 4294967296)) ((((bt a1 (ji14)) % 4294967296) * 256) % 4294967296)) ((bt a1 (wrap64 ((ji6) + 3))) % 4294967296))) (wrap64 (x22_1 + 1))) else (none)) else (none)) else (none)) else (none)) else (none)) else (none)) else (none)) = some r := by first | (rw [hji14] at H; exact H) | (simp only [hji14] at H ⊢; exact H)
    have hji14w : (IntKind.i64.wrap ((ji6) + 2)) = ji14 := (i64_w _).trans hji14
    by_cases c15 : 0 ≤ (ji14)
    rotate_left
    ·rw [if_neg c15] at H
     exact absurd H (by simp)
    rw [if_pos c15] at H
    have c15b0 : decide (0 ≤ (ji14)) = true := decide_eq_true c15
    clear c15
    by_cases c16 : (ji14) < (a1.size : Int)
    rotate_left
    ·rw [if_neg c16] at H
     exact absurd H (by simp)
    rw [if_pos c16] at H
    have c16b0 : decide ((ji14) < (a1.size : Int)) = true := decide_eq_true c16
    clear c16
    obtain ⟨ji18, hji18⟩ : ∃ j_ : Int, (wrap64 ((ji6) + 3)) = j_ := ⟨_, rfl⟩
    replace H : (if 0 ≤ (ji18) then (if (ji18) < (a1.size : Int) then (if x4_1.length = 64 then (if 0 ≤ x22_1 then (if x22_1 < (x4_1.length : Int) then (sha_state_block.l0 k1 l0 a1 (x4_1.set (x22_1 : Int).toNat (Go.bits .or .u32 (Go.bits .or .u32 (Go.bits .or .u32 ((((bt a1 (ji6)) % 4294967296) * 16777216) % 4294967296) ((((bt a1 (ji10)) % 4294967296) * 65536) % 4294967296)) ((((bt a1 (ji14)) % 4294967296) * 256) % 4294967296)) ((bt a1 (ji18)) % 4294967296))) (wrap64 (x22_1 + 1))) else (none)) else (none)) else (none)) else (none)) else (none)) = some r := by first | (rw [hji18] at H; exact H) | (simp only [hji18] at H ⊢; exact H)
    have hji18w : (IntKind.i64.wrap ((ji6) + 3)) = ji18 := (i64_w _).trans hji18
    by_cases c19 : 0 ≤ (ji18)
    rotate_left
    ·rw [if_neg c19] at H
     exact absurd H (by simp)
    rw [if_pos c19] at H
    have c19b0 : decide (0 ≤ (ji18)) = true := decide_eq_true c19
    clear c19
    by_cases c20 : (ji18) < (a1.size : Int)
    rotate_left
    ·rw [if_neg c20] at H
     exact absurd H (by simp)
    rw [if_pos c20] at H
    have c20b0 : decide ((ji18) < (a1.size : Int)) = true := decide_eq_true c20
    clear c20
    by_cases c22 : x4_1.length = 64
    rotate_left
    ·rw [if_neg c22] at H
     exact absurd H (by simp)
    rw [if_pos c22] at H
    have c22b0 := eq_true c22
    have c22b1 : decide (x4_1.length = 64) = true := decide_eq_true c22
    clear c22
    by_cases c23 : 0 ≤ x22_1
    rotate_left
    ·rw [if_neg c23] at H
     exact absurd H (by simp)
    rw [if_pos c23] at H
    have c23b0 : decide (0 ≤ x22_1) = true := decide_eq_true c23
    clear c23
    by_cases c24 : x22_1 < (x4_1.length : Int)
    rotate_left
    ·rw [if_neg c24] at H
     exact absurd H (by simp)
    rw [if_pos c24] at H
    have c24b0 : decide (x22_1 < (x4_1.length : Int)) = true := decide_eq_true c24
    clear c24
    obtain ⟨y127, hy127⟩ : ∃ y_ : List Int, y_ = (x4_1.set (x22_1 : Int).toNat (Go.bits .or .u32 (Go.bits .or .u32 (Go.bits .or .u32 ((((bt a1 (ji6)) % 4294967296) * 16777216) % 4294967296) ((((bt a1 (ji10)) % 4294967296) * 65536) % 4294967296)) ((((bt a1 (ji14)) % 4294967296) * 256) % 4294967296)) ((bt a1 (ji18)) % 4294967296))) := ⟨_, rfl⟩
    replace H : (sha_state_block.l0 k1 l0 a1 y127 (wrap64 (x22_1 + 1))) = some r := by first | (rw [hy127]; with_reducible exact H) | (have H2_ := (Option.bind_some _ _).symm.trans H; rw [hy127]; with_reducible exact H2_) | (have H2_ := (Option.bind_some _ _).symm.trans H; with_reducible exact H2_) | with_reducible exact H | (rw [hy127]; exact H) | exact H
    have Ny127 := Aside0.mk hy127
    clear hy127
    have H' := Aside0.mk H
    clear H
    try go_wp2
    have n0_ := Aside0.mk (Kd.R_drew HO_0.out)
    have n1_ := Aside0.mk (Kd.R_drew HO_4.out)
    have n2_ := Aside0.mk (Kept.drew HK.out)
    have n3_ := Aside0.mk (below_drew1 HB.out)
    clear HO_0
    clear HO_4
    clear HK
    clear HB
    have HO_0 := n0_
    have HO_4 := n1_
    have HK := n2_
    have HB := n3_
    clear n0_ n1_ n2_ n3_
    have p9 : 0 ≤ ((ji6) : Int) := od_ (by assumption)
    have q9 : (ji6) < (a1.size : Int) := od_ (by assumption)
    have hx9 := bt_at a1 (ji6)
    replace p9 := eq_true p9
    replace q9 := eq_true q9
    have p13 : 0 ≤ ((ji10) : Int) := od_ (by assumption)
    have q13 : (ji10) < (a1.size : Int) := od_ (by assumption)
    have hx13 := bt_at a1 (ji10)
    replace p13 := eq_true p13
    replace q13 := eq_true q13
    have p17 : 0 ≤ ((ji14) : Int) := od_ (by assumption)
    have q17 : (ji14) < (a1.size : Int) := od_ (by assumption)
    have hx17 := bt_at a1 (ji14)
    replace p17 := eq_true p17
    replace q17 := eq_true q17
    have p21 : 0 ≤ ((ji18) : Int) := od_ (by assumption)
    have q21 : (ji18) < (a1.size : Int) := od_ (by assumption)
    have hx21 := bt_at a1 (ji18)
    replace p21 := eq_true p21
    replace q21 := eq_true q21
    have qa25 : ((x22_1 : Int) < (64 : Int)) = True := eq_true (by have e_ : x4_1.length = 64 := od_ (by assumption); have h_ : (x22_1 : Int) < ((x4_1.length : Int) : Int) := od_ (by assumption); omega)
    have p25 : 0 ≤ (x22_1 : Int) := od_ (by assumption)
    have q25 : (x22_1 : Int) < ((x4_1.length : Int) : Int) := od_ (by assumption)
    obtain ⟨go25, co25, eo25, gb25, gl25, cl25, HG25⟩ := Kd.R_form HO_4.out (by omega)
    (first | cases eo25 | (injection eo25 with ea_ en_ ec_; (first | subst ea_ | (injection ea_ with ea_; subst ea_)); subst ec_; clear en_))
    have GB25 := Aside0.mk gb25
    have GG25 := Aside0.mk HG25
    clear gb25 gl25 HG25
    have HMgo25 := Aside0.mk (show (P0_ go25 ∨ w.heap.size ≤ go25) from (HO_4.out.1 _ rfl))
    obtain ⟨hx25_0, hf25_0⟩ := Kd.R_celln 0 HO_4.out (x22_1 : Int) p25 q25
    replace p25 := eq_true p25
    replace q25 := eq_true q25
    have HP27 := Kd.R_putn HO_4.out (x22_1 : Int) (Go.bits .or .u32 (Go.bits .or .u32 (Go.bits .or .u32 ((((bt a1 (ji6)) % 4294967296) * 16777216) % 4294967296) ((((bt a1 (ji10)) % 4294967296) * 65536) % 4294967296)) ((((bt a1 (ji14)) % 4294967296) * 256) % 4294967296)) ((bt a1 (ji18)) % 4294967296))
    rw [← Ny127.out] at HP27
    have HQ27 := Aside0.mk HP27
    clear HP27
    refine start_ (n := 32) (S := fun w' => True) (ds := [31]) #[false, false, false, false, false, false, false, false, false, false, false, false, false, false, false, false, false, false, false, false, false, false, false, false, false, false, false, false, false, false, false, false] (by kernel_rfl) rfl rfl trivial (fun hHeld => ?_); refine with_tabW sha_state_block.tab4 sha_state_block.bits4 (fun HT_ HW_ => ?_)
    generalize wr.drew = w26 at HO_0 HO_4 HK HB GG25 HQ27 hf25_0 hx25_0 hHeld ⊢
    refine runs_ [(0, some 25), (1, some 26), (2, some 27), (3, some 28), (7, some 32), (8, some 33), (9, some 34), (10, some 35), (15, some 40), (16, some 41), (17, some 42), (18, some 43), (23, some 48), (24, some 49), (25, some 50), (26, some 51)] ?_
    iterate 16 (refine pureL_ (v := ?_) (a' := ?_) rfl rfl (any_of HT_.out (by kernel_rfl)) (Or.inl ⟨by rfl, ?_⟩) ?_ ?_ (fun _ _ _ h => h); rotate_left; (intro w'; go_simp; with_reducible rfl); rotate_left; (simp only [pr_]; rfl))
    refine runsE_ ?_
    refine take_ (i := 4) (N := some 29) (v := ?_) (a' := ?_) #[true, true, true, true, true, false, false, true, true, true, true, false, false, false, false, true, true, true, true, false, false, false, false, true, true, true, true, false, false, false, false, false] rfl rfl (take_ofW HT_.out HW_.out (by kernel_rfl)) (fun _ _ _ h => h) (Or.inl ⟨by rfl, ?_⟩) hHeld ?_ ?_
    rotate_left
    ·intro w' _
     go_simp
     with_reducible rfl
    rotate_left
    ·simp only [pr_]
     rfl
    refine runs_ [(5, some 30), (6, some 31)] ?_
    iterate 2 (refine pureL_ (v := ?_) (a' := ?_) rfl rfl (any_of HT_.out (by kernel_rfl)) (Or.inl ⟨by rfl, ?_⟩) ?_ ?_ (fun _ _ _ h => h); rotate_left; (intro w'; go_simp; with_reducible rfl); rotate_left; (simp only [pr_]; rfl))
    refine runsE_ ?_
    refine take_ (i := 11) (N := some 36) (v := ?_) (a' := ?_) #[true, true, true, true, true, true, true, true, true, true, true, true, false, false, false, true, true, true, true, false, false, false, false, true, true, true, true, false, false, false, false, false] rfl rfl (take_ofW HT_.out HW_.out (by kernel_rfl)) (fun _ _ _ h => h) (Or.inl ⟨by rfl, ?_⟩) hHeld ?_ ?_
    rotate_left
    ·intro w' _
     go_simp
     with_reducible rfl
    rotate_left
    ·simp only [pr_]
     rfl
    refine runs_ [(12, some 37), (13, some 38), (14, some 39)] ?_
    iterate 3 (refine pureL_ (v := ?_) (a' := ?_) rfl rfl (any_of HT_.out (by kernel_rfl)) (Or.inl ⟨by rfl, ?_⟩) ?_ ?_ (fun _ _ _ h => h); rotate_left; (intro w'; go_simp; with_reducible rfl); rotate_left; (simp only [pr_]; rfl))
    refine runsE_ ?_
    refine take_ (i := 19) (N := some 44) (v := ?_) (a' := ?_) #[true, true, true, true, true, true, true, true, true, true, true, true, true, true, true, true, true, true, true, true, false, false, false, true, true, true, true, false, false, false, false, false] rfl rfl (take_ofW HT_.out HW_.out (by kernel_rfl)) (fun _ _ _ h => h) (Or.inl ⟨by rfl, ?_⟩) hHeld ?_ ?_
    rotate_left
    ·intro w' _
     go_simp
     with_reducible rfl
    rotate_left
    ·simp only [pr_]
     rfl
    refine runs_ [(20, some 45), (21, some 46), (22, some 47)] ?_
    iterate 3 (refine pureL_ (v := ?_) (a' := ?_) rfl rfl (any_of HT_.out (by kernel_rfl)) (Or.inl ⟨by rfl, ?_⟩) ?_ ?_ (fun _ _ _ h => h); rotate_left; (intro w'; go_simp; with_reducible rfl); rotate_left; (simp only [pr_]; rfl))
    refine runsE_ ?_
    refine take_ (i := 27) (N := some 52) (v := ?_) (a' := ?_) #[true, true, true, true, true, true, true, true, true, true, true, true, true, true, true, true, true, true, true, true, true, true, true, true, true, true, true, true, false, false, false, false] rfl rfl (take_ofW HT_.out HW_.out (by kernel_rfl)) (fun _ _ _ h => h) (Or.inl ⟨by rfl, ?_⟩) hHeld ?_ ?_
    rotate_left
    ·intro w' _
     go_simp
     with_reducible rfl
    rotate_left
    ·simp only [pr_]
     rfl
    refine runs_ [(28, some 53), (29, some 54), (30, some 55)] ?_
    iterate 3 (refine pureL_ (v := ?_) (a' := ?_) rfl rfl (any_of HT_.out (by kernel_rfl)) (Or.inl ⟨by rfl, ?_⟩) ?_ ?_ (fun _ _ _ h => h); rotate_left; (intro w'; go_simp; with_reducible rfl); rotate_left; (simp only [pr_]; rfl))
    refine runsE_ ?_
    refine last_ (i := 31) (N := none) #[true, true, true, true, true, true, true, true, true, true, true, true, true, true, true, true, true, true, true, true, true, true, true, true, true, true, true, true, true, true, true, true] rfl rfl (one_of HT_.out (by kernel_rfl)) (by decide) (fun K hK => ?_)
    refine skip_set ⟨go25, (x22_1 : Int).toNat, none⟩ (.int .u32 (Go.bits .or .u32 (Go.bits .or .u32 (Go.bits .or .u32 ((((bt a1 (ji6)) % 4294967296) * 16777216) % 4294967296) ((((bt a1 (ji10)) % 4294967296) * 65536) % 4294967296)) ((((bt a1 (ji14)) % 4294967296) * 256) % 4294967296)) ((bt a1 (ji18)) % 4294967296))) (by rfl) rfl ?_ ?_
    ·first | (go_simp; done) | (go_simp; rfl) | (go_simp; (try simp only [IntKind.wrap_u32, IntKind.wrap_u8]); refine congrArg (fun v_ => World.setCell _ _ (Value.int _ v_)) ?_; omega)
    refine hK.out _ _ ?_
    clear hK K
    refine done_ (done_of HT_.out (by kernel_rfl)) ?_
    try go_wp2
    go_roundg k1
    case measure => have := HK1.out; omega
    case rel => exact ⟨(y127), (wrap64 (x22_1 + 1)), (by first | rfl | (simp; done) | (simp [*]; done) | (refine congrArg (Value.int _) ?_; first | omega | (unfold wrap64; omega))), H', ⟨by have := HK1.out; omega⟩, ⟨by (with_reducible repeat (first | apply Kd.R_alloc | apply Kd.R_drewN | apply Kd.R_drew)); exact Kd.R_mono (Kd.R_far (p := ⟨go25, (x22_1 : Int).toNat, none⟩) (Kd.R_types HO_0.out GG25.out (by decide)) (fun _ hk => hk.2) (.int .u32 (Go.bits .or .u32 (Go.bits .or .u32 (Go.bits .or .u32 ((((bt a1 (ji6)) % 4294967296) * 16777216) % 4294967296) ((((bt a1 (ji10)) % 4294967296) * 65536) % 4294967296)) ((((bt a1 (ji14)) % 4294967296) * 256) % 4294967296)) ((bt a1 (ji18)) % 4294967296)))) (fun _ hk => hk.1)⟩, ⟨by (with_reducible repeat (first | apply Kd.R_alloc | apply Kd.R_drewN | apply Kd.R_drew)); exact HQ27.out⟩, ⟨by repeat (first | (with_reducible first | exact HK.out | apply Kept.alloc | apply Kept.drewN | apply Kept.drew | refine Kept.setCell ?_ HMgo25.out _) | exact HK.out)⟩, ⟨by repeat (first | (with_reducible first | exact HB.out | apply lA_ | apply lN_ | apply lD_ | refine lS_ ?_ GB25.out) | exact HB.out)⟩⟩
   rw [if_neg c5] at H
   have c5b0 : decide (x22_1 < 16) = false := decide_eq_false c5
   clear c5
   have H' := Aside0.mk H
   clear H
   go_wp2
   go_loopg [6] k1 (fun kq v6 w' => ∃ (x4_2 : List Int) (x6_2 : Int), v6 = .int .i64 x6_2 ∧ Aside0 (sha_state_block.l1 kq l0 x4_2 x6_2 = some r) ∧ Aside0 (kq ≤ k1) ∧ Aside0 (Kd.R (Kd.int .u32) 106 w' w0.heap.size (fun k_ => (P0_ k_ ∨ w.heap.size ≤ k_)) u9000_ l0) ∧ Aside0 (Kd.R (Kd.int .u32) 113 w' w0.heap.size (fun k_ => (P0_ k_ ∨ w.heap.size ≤ k_)) v125 x4_2) ∧ Aside0 (Kept w w' (fun k_ => P0_ k_)) ∧ Aside0 (Below w0.heap.size w0 w'))
   case atStart => exact ⟨(x4_1), (16), (by first | rfl | (simp; done) | (simp [*]; done) | (refine congrArg (Value.int _) ?_; first | omega | (unfold wrap64; omega))), H', ⟨Nat.le_refl _⟩, ⟨by (with_reducible repeat (first | apply Kd.R_alloc | apply Kd.R_drewN | apply Kd.R_drew)); exact HO_0.out⟩, ⟨by (with_reducible repeat (first | apply Kd.R_alloc | apply Kd.R_drewN | apply Kd.R_drew)); exact HO_4.out⟩, ⟨by repeat (first | (with_reducible first | exact HK.out | apply Kept.alloc | apply Kept.drewN | apply Kept.drew) | exact HK.out)⟩, ⟨by repeat (first | (with_reducible first | exact HB.out | apply lA_ | apply lN_ | apply lD_) | exact HB.out)⟩⟩
   case round =>
    clear H'
    (try clear c1); (try clear p1); (try clear q1); (try clear hx1); (try clear c2); (try clear p2); (try clear q2); (try clear hx2); (try clear hf2); (try clear c5); (try clear c5b0); (try clear p6); (try clear c7); (try clear c7b0); (try clear c8); (try clear c8b0); (try clear p9); (try clear q9); (try clear hx9); (try clear c11); (try clear c11b0); (try clear c12); (try clear c12b0); (try clear p13); (try clear q13); (try clear hx13); (try clear c15); (try clear c15b0); (try clear c16); (try clear c16b0); (try clear p17); (try clear q17); (try clear hx17); (try clear c19); (try clear c19b0); (try clear c20); (try clear c20b0); (try clear p21); (try clear q21); (try clear hx21); (try clear c22); (try clear c22b0); (try clear c22b1); (try clear c23); (try clear c23b0); (try clear c24); (try clear c24b0); (try clear p25); (try clear q25); (try clear hx25); (try clear hf25); (try clear hx25_0); (try clear p13); (try clear p17); (try clear p2); (try clear p21); (try clear p25); (try clear p9); (try clear q13); (try clear q17); (try clear q21); (try clear q25); (try clear q9)
    obtain ⟨x4_2, x6_2, rfl, HA, HK2, HO_0, HO_4, HK, HB⟩ := hrel
    cases gk with
    | zero => exact absurd HA.out (by simp [sha_state_block.l1])
    | succ k2 =>
     have H := HA.out
     clear HA
     simp only [sha_state_block.l1] at H
     by_cases c28 : x6_2 < 64
     ·rw [if_pos c28] at H
      have c28b0 : decide (x6_2 < 64) = true := decide_eq_true c28
      clear c28
      by_cases c29 : x4_2.length = 64
      rotate_left
      ·rw [if_neg c29] at H
       exact absurd H (by simp)
      rw [if_pos c29] at H
      have c29b0 := eq_true c29
      have c29b1 : decide (x4_2.length = 64) = true := decide_eq_true c29
      clear c29
      obtain ⟨ji30, hji30⟩ : ∃ j_ : Int, (wrap64 (x6_2 - 15)) = j_ := ⟨_, rfl⟩
      replace H : (if 0 ≤ (ji30) then (if (ji30) < (x4_2.length : Int) then (if 0 ≤ (wrap64 (x6_2 - 2)) then (if (wrap64 (x6_2 - 2)) < (x4_2.length : Int) then (if 0 ≤ (wrap64 (x6_2 - 16)) then (if (wrap64 (x6_2 - 16)) < (x4_2.length : Int) then (if 0 ≤ (wrap64 (x6_2 - 7)) then (if (wrap64 (x6_2 - 7)) < (x4_2.length : Int) then ((bits_RotateLeft32.f (rd x4_2 (ji30)) (-7)).bind fun t132 => ((bits_RotateLeft32.f (rd x4_2 (ji30)) (-18)).bind fun t133 => ((bits_RotateLeft32.f (rd x4_2 (wrap64 (x6_2 - 2))) (-17)).bind fun t134 => ((bits_RotateLeft32.f (rd x4_2 (wrap64 (x6_2 - 2))) (-19)).bind fun t135 => (if 0 ≤ x6_2 then (if x6_2 < (x4_2.length : Int) then (sha_state_block.l1 k2 l0 (x4_2.set (x6_2 : Int).toNat (((((rd x4_2 (wrap64 (x6_2 - 16))) + (rd x4_2 (wrap64 (x6_2 - 7)))) + (Go.bits .xor .u32 (Go.bits .xor .u32 t132 t133) ((rd x4_2 (ji30)) / 8))) + (Go.bits .xor .u32 (Go.bits .xor .u32 t134 t135) ((rd x4_2 (wrap64 (x6_2 - 2))) / 1024))) % 4294967296)) (wrap64 (x6_2 + 1))) else (none)) else (none)))))) else (none)) else (none)) else (none)) else (none)) else (none)) else (none)) else (none)) else (none)) = some r := by first | (rw [hji30] at H; exact H) | (simp only [hji30] at H ⊢; exact H)
      have hji30w : (IntKind.i64.wrap (x6_2 - 15)) = ji30 := (i64_w _).trans hji30
      by_cases c31 : 0 ≤ (ji30)
      rotate_left
      ·rw [if_neg c31] at H
       exact absurd H (by simp)
      rw [if_pos c31] at H
      have c31b0 : decide (0 ≤ (ji30)) = true := decide_eq_true c31
      clear c31
      by_cases c32 : (ji30) < (x4_2.length : Int)
      rotate_left
      ·rw [if_neg c32] at H
       exact absurd H (by simp)
      rw [if_pos c32] at H
      have c32b0 : decide ((ji30) < (x4_2.length : Int)) = true := decide_eq_true c32
      clear c32
      obtain ⟨ji33, hji33⟩ : ∃ j_ : Int, (wrap64 (x6_2 - 2)) = j_ := ⟨_, rfl⟩
      replace H : (if 0 ≤ (ji33) then (if (ji33) < (x4_2.length : Int) then (if 0 ≤ (wrap64 (x6_2 - 16)) then (if (wrap64 (x6_2 - 16)) < (x4_2.length : Int) then (if 0 ≤ (wrap64 (x6_2 - 7)) then (if (wrap64 (x6_2 - 7)) < (x4_2.length : Int) then ((bits_RotateLeft32.f (rd x4_2 (ji30)) (-7)).bind fun t132 => ((bits_RotateLeft32.f (rd x4_2 (ji30)) (-18)).bind fun t133 => ((bits_RotateLeft32.f (rd x4_2 (ji33)) (-17)).bind fun t134 => ((bits_RotateLeft32.f (rd x4_2 (ji33)) (-19)).bind fun t135 => (if 0 ≤ x6_2 then (if x6_2 < (x4_2.length : Int) then (sha_state_block.l1 k2 l0 (x4_2.set (x6_2 : Int).toNat (((((rd x4_2 (wrap64 (x6_2 - 16))) + (rd x4_2 (wrap64 (x6_2 - 7)))) + (Go.bits .xor .u32 (Go.bits .xor .u32 t132 t133) ((rd x4_2 (ji30)) / 8))) + (Go.bits .xor .u32 (Go.bits .xor .u32 t134 t135) ((rd x4_2 (ji33)) / 1024))) % 4294967296)) (wrap64 (x6_2 + 1))) else (none)) else (none)))))) else (none)) else (none)) else (none)) else (none)) else (none)) else (none)) = some r := by first | (rw [hji33] at H; exact H) | (simp only [hji33] at H ⊢; exact H)
      have hji33w : (IntKind.i64.wrap (x6_2 - 2)) = ji33 := (i64_w _).trans hji33
      by_cases c34 : 0 ≤ (ji33)
      rotate_left
      ·rw [if_neg c34] at H
       exact absurd H (by simp)
      rw [if_pos c34] at H
      have c34b0 : decide (0 ≤ (ji33)) = true := decide_eq_true c34
      clear c34
      by_cases c35 : (ji33) < (x4_2.length : Int)
      rotate_left
      ·rw [if_neg c35] at H
       exact absurd H (by simp)
      rw [if_pos c35] at H
      have c35b0 : decide ((ji33) < (x4_2.length : Int)) = true := decide_eq_true c35
      clear c35
      obtain ⟨ji36, hji36⟩ : ∃ j_ : Int, (wrap64 (x6_2 - 16)) = j_ := ⟨_, rfl⟩
      replace H : (if 0 ≤ (ji36) then (if (ji36) < (x4_2.length : Int) then (if 0 ≤ (wrap64 (x6_2 - 7)) then (if (wrap64 (x6_2 - 7)) < (x4_2.length : Int) then ((bits_RotateLeft32.f (rd x4_2 (ji30)) (-7)).bind fun t132 => ((bits_RotateLeft32.f (rd x4_2 (ji30)) (-18)).bind fun t133 => ((bits_RotateLeft32.f (rd x4_2 (ji33)) (-17)).bind fun t134 => ((bits_RotateLeft32.f (rd x4_2 (ji33)) (-19)).bind fun t135 => (if 0 ≤ x6_2 then (if x6_2 < (x4_2.length : Int) then (sha_state_block.l1 k2 l0 (x4_2.set (x6_2 : Int).toNat (((((rd x4_2 (ji36)) + (rd x4_2 (wrap64 (x6_2 - 7)))) + (Go.bits .xor .u32 (Go.bits .xor .u32 t132 t133) ((rd x4_2 (ji30)) / 8))) + (Go.bits .xor .u32 (Go.bits .xor .u32 t134 t135) ((rd x4_2 (ji33)) / 1024))) % 4294967296)) (wrap64 (x6_2 + 1))) else (none)) else (none)))))) else (none)) else (none)) else (none)) else (none)) = some r := by first | (rw [hji36] at H; exact H) | (simp only [hji36] at H ⊢; exact H)
      have hji36w : (IntKind.i64.wrap (x6_2 - 16)) = ji36 := (i64_w _).trans hji36
      by_cases c37 : 0 ≤ (ji36)
      rotate_left
      ·rw [if_neg c37] at H
       exact absurd H (by simp)
      rw [if_pos c37] at H
      have c37b0 : decide (0 ≤ (ji36)) = true := decide_eq_true c37
      clear c37
      by_cases c38 : (ji36) < (x4_2.length : Int)
      rotate_left
      ·rw [if_neg c38] at H
       exact absurd H (by simp)
      rw [if_pos c38] at H
      have c38b0 : decide ((ji36) < (x4_2.length : Int)) = true := decide_eq_true c38
      clear c38
      obtain ⟨ji39, hji39⟩ : ∃ j_ : Int, (wrap64 (x6_2 - 7)) = j_ := ⟨_, rfl⟩
      replace H : (if 0 ≤ (ji39) then (if (ji39) < (x4_2.length : Int) then ((bits_RotateLeft32.f (rd x4_2 (ji30)) (-7)).bind fun t132 => ((bits_RotateLeft32.f (rd x4_2 (ji30)) (-18)).bind fun t133 => ((bits_RotateLeft32.f (rd x4_2 (ji33)) (-17)).bind fun t134 => ((bits_RotateLeft32.f (rd x4_2 (ji33)) (-19)).bind fun t135 => (if 0 ≤ x6_2 then (if x6_2 < (x4_2.length : Int) then (sha_state_block.l1 k2 l0 (x4_2.set (x6_2 : Int).toNat (((((rd x4_2 (ji36)) + (rd x4_2 (ji39))) + (Go.bits .xor .u32 (Go.bits .xor .u32 t132 t133) ((rd x4_2 (ji30)) / 8))) + (Go.bits .xor .u32 (Go.bits .xor .u32 t134 t135) ((rd x4_2 (ji33)) / 1024))) % 4294967296)) (wrap64 (x6_2 + 1))) else (none)) else (none)))))) else (none)) else (none)) = some r := by first | (rw [hji39] at H; exact H) | (simp only [hji39] at H ⊢; exact H)
      have hji39w : (IntKind.i64.wrap (x6_2 - 7)) = ji39 := (i64_w _).trans hji39
      by_cases c40 : 0 ≤ (ji39)
      rotate_left
      ·rw [if_neg c40] at H
       exact absurd H (by simp)
      rw [if_pos c40] at H
      have c40b0 : decide (0 ≤ (ji39)) = true := decide_eq_true c40
      clear c40
      by_cases c41 : (ji39) < (x4_2.length : Int)
      rotate_left
      ·rw [if_neg c41] at H
       exact absurd H (by simp)
      rw [if_pos c41] at H
      have c41b0 : decide ((ji39) < (x4_2.length : Int)) = true := decide_eq_true c41
      clear c41
      replace H := ob_ H
      obtain ⟨t132, A420, H⟩ := H
      replace H : ((bits_RotateLeft32.f (rd x4_2 (ji30)) (-18)).bind fun t133 => ((bits_RotateLeft32.f (rd x4_2 (ji33)) (-17)).bind fun t134 => ((bits_RotateLeft32.f (rd x4_2 (ji33)) (-19)).bind fun t135 => (if 0 ≤ x6_2 then (if x6_2 < (x4_2.length : Int) then (sha_state_block.l1 k2 l0 (x4_2.set (x6_2 : Int).toNat (((((rd x4_2 (ji36)) + (rd x4_2 (ji39))) + (Go.bits .xor .u32 (Go.bits .xor .u32 t132 t133) ((rd x4_2 (ji30)) / 8))) + (Go.bits .xor .u32 (Go.bits .xor .u32 t134 t135) ((rd x4_2 (ji33)) / 1024))) % 4294967296)) (wrap64 (x6_2 + 1))) else (none)) else (none))))) = some r := H
      have A42 := Aside0.mk A420
      clear A420
      replace H := ob_ H
      obtain ⟨t133, A430, H⟩ := H
      replace H : ((bits_RotateLeft32.f (rd x4_2 (ji33)) (-17)).bind fun t134 => ((bits_RotateLeft32.f (rd x4_2 (ji33)) (-19)).bind fun t135 => (if 0 ≤ x6_2 then (if x6_2 < (x4_2.length : Int) then (sha_state_block.l1 k2 l0 (x4_2.set (x6_2 : Int).toNat (((((rd x4_2 (ji36)) + (rd x4_2 (ji39))) + (Go.bits .xor .u32 (Go.bits .xor .u32 t132 t133) ((rd x4_2 (ji30)) / 8))) + (Go.bits .xor .u32 (Go.bits .xor .u32 t134 t135) ((rd x4_2 (ji33)) / 1024))) % 4294967296)) (wrap64 (x6_2 + 1))) else (none)) else (none)))) = some r := H
      have A43 := Aside0.mk A430
      clear A430
      replace H := ob_ H
      obtain ⟨t134, A440, H⟩ := H
      replace H : ((bits_RotateLeft32.f (rd x4_2 (ji33)) (-19)).bind fun t135 => (if 0 ≤ x6_2 then (if x6_2 < (x4_2.length : Int) then (sha_state_block.l1 k2 l0 (x4_2.set (x6_2 : Int).toNat (((((rd x4_2 (ji36)) + (rd x4_2 (ji39))) + (Go.bits .xor .u32 (Go.bits .xor .u32 t132 t133) ((rd x4_2 (ji30)) / 8))) + (Go.bits .xor .u32 (Go.bits .xor .u32 t134 t135) ((rd x4_2 (ji33)) / 1024))) % 4294967296)) (wrap64 (x6_2 + 1))) else (none)) else (none))) = some r := H
      have A44 := Aside0.mk A440
      clear A440
      replace H := ob_ H
      obtain ⟨t135, A450, H⟩ := H
      replace H : (if 0 ≤ x6_2 then (if x6_2 < (x4_2.length : Int) then (sha_state_block.l1 k2 l0 (x4_2.set (x6_2 : Int).toNat (((((rd x4_2 (ji36)) + (rd x4_2 (ji39))) + (Go.bits .xor .u32 (Go.bits .xor .u32 t132 t133) ((rd x4_2 (ji30)) / 8))) + (Go.bits .xor .u32 (Go.bits .xor .u32 t134 t135) ((rd x4_2 (ji33)) / 1024))) % 4294967296)) (wrap64 (x6_2 + 1))) else (none)) else (none)) = some r := H
      have A45 := Aside0.mk A450
      clear A450
      by_cases c46 : 0 ≤ x6_2
      rotate_left
      ·rw [if_neg c46] at H
       exact absurd H (by simp)
      rw [if_pos c46] at H
      have c46b0 : decide (0 ≤ x6_2) = true := decide_eq_true c46
      clear c46
      by_cases c47 : x6_2 < (x4_2.length : Int)
      rotate_left
      ·rw [if_neg c47] at H
       exact absurd H (by simp)
      rw [if_pos c47] at H
      have c47b0 : decide (x6_2 < (x4_2.length : Int)) = true := decide_eq_true c47
      clear c47
      obtain ⟨y136, hy136⟩ : ∃ y_ : List Int, y_ = (x4_2.set (x6_2 : Int).toNat (((((rd x4_2 (ji36)) + (rd x4_2 (ji39))) + (Go.bits .xor .u32 (Go.bits .xor .u32 t132 t133) ((rd x4_2 (ji30)) / 8))) + (Go.bits .xor .u32 (Go.bits .xor .u32 t134 t135) ((rd x4_2 (ji33)) / 1024))) % 4294967296)) := ⟨_, rfl⟩
      replace H : (sha_state_block.l1 k2 l0 y136 (wrap64 (x6_2 + 1))) = some r := by first | (rw [hy136]; with_reducible exact H) | (have H2_ := (Option.bind_some _ _).symm.trans H; rw [hy136]; with_reducible exact H2_) | (have H2_ := (Option.bind_some _ _).symm.trans H; with_reducible exact H2_) | with_reducible exact H | (rw [hy136]; exact H) | exact H
      have Ny136 := Aside0.mk hy136
      clear hy136
      have H' := Aside0.mk H
      clear H
      try go_wp2
      have n0_ := Aside0.mk (Kd.R_drew HO_0.out)
      have n1_ := Aside0.mk (Kd.R_drew HO_4.out)
      have n2_ := Aside0.mk (Kept.drew HK.out)
      have n3_ := Aside0.mk (below_drew1 HB.out)
      clear HO_0
      clear HO_4
      clear HK
      clear HB
      have HO_0 := n0_
      have HO_4 := n1_
      have HK := n2_
      have HB := n3_
      clear n0_ n1_ n2_ n3_
      obtain ⟨Ao50, co50, eo50⟩ := Kd.R_slice HO_4.out
      (first | subst eo50 | (injection eo50 with f1_ f2_ f3_; have f4_ := f1_.symm; have f5_ := f3_.symm; clear f1_ f2_ f3_; subst f4_; subst f5_))
      have qa128 : (((ji30) : Int) < (64 : Int)) = True := eq_true (by have e_ : x4_2.length = 64 := od_ (by assumption); have h_ : ((ji30) : Int) < ((x4_2.length : Int) : Int) := od_ (by assumption); omega)
      have p128 : 0 ≤ ((ji30) : Int) := od_ (by assumption)
      have q128 : (ji30) < (x4_2.length : Int) := od_ (by assumption)
      obtain ⟨ad128, e128, hx128_0⟩ := Kd.at_int (Kd.R_reads' HO_4.out).2.2 (ji30) p128 q128
      cases e128
      replace p128 := eq_true p128
      replace q128 := eq_true q128
      have qa129 : (((ji33) : Int) < (64 : Int)) = True := eq_true (by have e_ : x4_2.length = 64 := od_ (by assumption); have h_ : ((ji33) : Int) < ((x4_2.length : Int) : Int) := od_ (by assumption); omega)
      have p129 : 0 ≤ ((ji33) : Int) := od_ (by assumption)
      have q129 : (ji33) < (x4_2.length : Int) := od_ (by assumption)
      obtain ⟨ad129, e129, hx129_0⟩ := Kd.at_int (Kd.R_reads' HO_4.out).2.2 (ji33) p129 q129
      obtain rfl : ad128 = ad129 := (by injection e129)
      replace p129 := eq_true p129
      replace q129 := eq_true q129
      refine start_ (n := 10) (S := fun w' => w'.cell? (ad128.add ((ji30)).toNat) = some (.int .u32 (rd x4_2 (ji30))) ∧ w'.cell? (ad128.add ((ji33)).toNat) = some (.int .u32 (rd x4_2 (ji33)))) (ds := []) #[false, false, false, false, false, false, false, false, false, false] (by kernel_rfl) rfl rfl ⟨hx128_0, hx129_0⟩ (fun hHeld => ?_); refine with_tabW sha_state_block.tab9 sha_state_block.bits9 (fun HT_ HW_ => ?_)
      generalize wr.drew = w49 at HO_0 HO_4 HK HB hx128_0 hx129_0 hHeld ⊢
      refine runs_ [(0, some 61), (1, some 62), (2, some 63), (4, some 65), (5, some 66), (6, some 67)] ?_
      iterate 6 (refine pureL_ (v := ?_) (a' := ?_) rfl rfl (any_of HT_.out (by kernel_rfl)) (Or.inl ⟨by rfl, ?_⟩) ?_ ?_ (fun _ _ _ h => h); rotate_left; (intro w'; go_simp; with_reducible rfl); rotate_left; (simp only [pr_]; rfl))
      refine runsE_ ?_
      refine take_ (i := 3) (N := some 64) (v := ?_) (a' := ?_) #[true, true, true, true, true, true, true, false, false, false] rfl rfl (take_ofW HT_.out HW_.out (by kernel_rfl)) (fun _ _ _ h => h) (Or.inl ⟨by rfl, ?_⟩) hHeld ?_ ?_
      rotate_left
      ·rintro w' ⟨s0, s1⟩
       go_simp
       with_reducible rfl
      rotate_left
      ·simp only [pr_]
       rfl
      refine pure_ (i := 8) (N := some 7) (v := ?_) (a' := ?_) #[true, true, true, true, true, true, true, false, true, false] rfl rfl (any_of HT_.out (by kernel_rfl)) (fun _ _ _ h => h) (Or.inl ⟨by rfl, ?_⟩) ?_ ?_
      rotate_left
      ·intro w'
       go_simp
       with_reducible rfl
      rotate_left
      ·simp only [pr_]
       rfl
      refine take_ (i := 7) (N := some 68) (v := ?_) (a' := ?_) #[true, true, true, true, true, true, true, true, true, false] rfl rfl (take_ofW HT_.out HW_.out (by kernel_rfl)) (fun _ _ _ h => h) (Or.inl ⟨by rfl, ?_⟩) hHeld ?_ ?_
      rotate_left
      ·rintro w' ⟨s0, s1⟩
       go_simp
       with_reducible rfl
      rotate_left
      ·simp only [pr_]
       rfl
      refine pure_ (i := 9) (N := some 8) (v := ?_) (a' := ?_) #[true, true, true, true, true, true, true, true, true, true] rfl rfl (any_of HT_.out (by kernel_rfl)) (fun _ _ _ h => h) (Or.inl ⟨by rfl, ?_⟩) ?_ ?_
      rotate_left
      ·intro w'
       go_simp
       with_reducible rfl
      rotate_left
      ·simp only [pr_]
       rfl
      refine done_ (done_of HT_.out (by kernel_rfl)) ?_
      try go_wp2
      have n0_ := Aside0.mk (Kd.R_drew HO_0.out)
      have n1_ := Aside0.mk (Kd.R_drew HO_4.out)
      have n2_ := Aside0.mk (Kept.drew HK.out)
      have n3_ := Aside0.mk (below_drew1 HB.out)
      clear HO_0
      clear HO_4
      clear HK
      clear HB
      have HO_0 := n0_
      have HO_4 := n1_
      have HK := n2_
      have HB := n3_
      clear n0_ n1_ n2_ n3_
      have qa130 : (((ji36) : Int) < (64 : Int)) = True := eq_true (by have e_ : x4_2.length = 64 := od_ (by assumption); have h_ : ((ji36) : Int) < ((x4_2.length : Int) : Int) := od_ (by assumption); omega)
      have p130 : 0 ≤ ((ji36) : Int) := od_ (by assumption)
      have q130 : (ji36) < (x4_2.length : Int) := od_ (by assumption)
      obtain ⟨ad130, e130, hx130_0⟩ := Kd.at_int (Kd.R_reads' HO_4.out).2.2 (ji36) p130 q130
      obtain rfl : ad128 = ad130 := (by injection e130)
      replace p130 := eq_true p130
      replace q130 := eq_true q130
      have qa131 : (((ji39) : Int) < (64 : Int)) = True := eq_true (by have e_ : x4_2.length = 64 := od_ (by assumption); have h_ : ((ji39) : Int) < ((x4_2.length : Int) : Int) := od_ (by assumption); omega)
      have p131 : 0 ≤ ((ji39) : Int) := od_ (by assumption)
      have q131 : (ji39) < (x4_2.length : Int) := od_ (by assumption)
      obtain ⟨ad131, e131, hx131_0⟩ := Kd.at_int (Kd.R_reads' HO_4.out).2.2 (ji39) p131 q131
      obtain rfl : ad128 = ad131 := (by injection e131)
      replace p131 := eq_true p131
      replace q131 := eq_true q131
      refine start_ (n := 30) (S := fun w' => w'.cell? (ad128.add ((ji36)).toNat) = some (.int .u32 (rd x4_2 (ji36))) ∧ w'.cell? (ad128.add ((ji39)).toNat) = some (.int .u32 (rd x4_2 (ji39)))) (ds := [29]) #[false, false, false, false, false, false, false, false, false, false, false, false, false, false, false, false, false, false, false, false, false, false, false, false, false, false, false, false, false, false] (by kernel_rfl) rfl rfl ⟨hx130_0, hx131_0⟩ (fun hHeld => ?_); refine with_tabW sha_state_block.tab10 sha_state_block.bits10 (fun HT_ HW_ => ?_)
      generalize w49.drew = w51 at HO_0 HO_4 HK HB hx130_0 hx131_0 hHeld ⊢
      refine runs_ [(0, some 69), (1, some 70), (2, some 71), (3, some 72), (5, some 74), (6, some 75), (7, some 76), (10, some 79), (12, some 81), (15, some 84), (16, some 85), (19, some 88), (21, some 90), (24, some 93), (25, some 94)] ?_
      iterate 15 (refine pureL_ (v := ?_) (a' := ?_) rfl rfl (any_of HT_.out (by kernel_rfl)) (Or.inl ⟨by rfl, ?_⟩) ?_ ?_ (fun _ _ _ h => h); rotate_left; (intro w'; go_simp; with_reducible rfl); rotate_left; (simp only [pr_]; rfl))
      refine runsE_ ?_
      refine runs_ [(4, some 73), (8, some 77)] ?_
      iterate 2 (refine takeL_ (v := ?_) (a' := ?_) rfl rfl (take_ofW HT_.out HW_.out (by kernel_rfl)) (Or.inl ⟨by rfl, ?_⟩) hHeld ?_ ?_ (fun _ _ _ h => h); rotate_left; (rintro w' ⟨s0, s1⟩; go_simp; with_reducible rfl); rotate_left; (simp only [pr_]; rfl))
      refine runsE_ ?_
      refine pure_ (i := 9) (N := some 78) (v := ?_) (a' := ?_) #[true, true, true, true, true, true, true, true, true, true, true, false, true, false, false, true, true, false, false, true, false, true, false, false, true, true, false, false, false, false] rfl rfl (any_of HT_.out (by kernel_rfl)) (fun _ _ _ h => h) (Or.inl ⟨by rfl, ?_⟩) ?_ ?_
      rotate_left
      ·intro w'
       go_simp
       with_reducible rfl
      rotate_left
      ·simp only [pr_]
       rfl
      refine one_ (i := 11) (N := some 80) #[true, true, true, true, true, true, true, true, true, true, true, true, true, false, false, true, true, false, false, true, false, true, false, false, true, true, false, false, false, false] rfl rfl (one_of HT_.out (by kernel_rfl)) (by decide) (fun K hK => ?_)
      refine goes_ Tryd.func95 (by kernel_rfl) rfl #[.int .u32 (rd x4_2 (ji30)), .int .i64 (-7)] (by rfl) rfl rfl (by (try simp only [List.map_toArray, List.map_cons, List.map_nil]); first | done | (simp only [hji30]; rfl) | rfl | (simp only [List.length_drop, List.length_take]; rfl)) ?_
      with_reducible refine (bits_RotateLeft32.calls (rd x4_2 (ji30)) (-7) t132 _ A42.out).mono ?_
      rintro e w' ⟨rfl, ⟨nd, rfl⟩⟩
      refine ⟨_, rfl, ?_⟩
      refine hK.out _ _ ⟨hHeld.1, hHeld.2⟩ (fun hHeld => ?_)
      clear hK K
      refine norm_ (a' := ?_) ?_ ?_
      rotate_left
      ·show Act.put _ (some 80) _ = _
       simp only [pr_]
       rfl
      refine one_ (i := 13) (N := some 82) #[true, true, true, true, true, true, true, true, true, true, true, true, true, true, false, true, true, false, false, true, false, true, false, false, true, true, false, false, false, false] rfl rfl (one_of HT_.out (by kernel_rfl)) (by decide) (fun K hK => ?_)
      refine goes_ Tryd.func95 (by kernel_rfl) rfl #[.int .u32 (rd x4_2 (ji30)), .int .i64 (-18)] (by rfl) rfl rfl (by (try simp only [List.map_toArray, List.map_cons, List.map_nil]); first | done | (simp only [hji30]; rfl) | rfl | (simp only [List.length_drop, List.length_take]; rfl)) ?_
      with_reducible refine (bits_RotateLeft32.calls (rd x4_2 (ji30)) (-18) t133 _ A43.out).mono ?_
      rintro e w' ⟨rfl, ⟨nd, rfl⟩⟩
      refine ⟨_, rfl, ?_⟩
      refine hK.out _ _ ⟨hHeld.1, hHeld.2⟩ (fun hHeld => ?_)
      clear hK K
      refine norm_ (a' := ?_) ?_ ?_
      rotate_left
      ·show Act.put _ (some 82) _ = _
       simp only [pr_]
       rfl
      refine runs_ [(14, some 83), (17, some 86), (18, some 87)] ?_
      iterate 3 (refine pureL_ (v := ?_) (a' := ?_) rfl rfl (any_of HT_.out (by kernel_rfl)) (Or.inl ⟨by rfl, ?_⟩) ?_ ?_ (fun _ _ _ h => h); rotate_left; (intro w'; go_simp; with_reducible rfl); rotate_left; (simp only [pr_]; rfl))
      refine runsE_ ?_
      refine one_ (i := 20) (N := some 89) #[true, true, true, true, true, true, true, true, true, true, true, true, true, true, true, true, true, true, true, true, true, true, false, false, true, true, false, false, false, false] rfl rfl (one_of HT_.out (by kernel_rfl)) (by decide) (fun K hK => ?_)
      refine goes_ Tryd.func95 (by kernel_rfl) rfl #[.int .u32 (rd x4_2 (ji33)), .int .i64 (-17)] (by rfl) rfl rfl (by (try simp only [List.map_toArray, List.map_cons, List.map_nil]); first | done | (simp only [hji33]; rfl) | rfl | (simp only [List.length_drop, List.length_take]; rfl)) ?_
      with_reducible refine (bits_RotateLeft32.calls (rd x4_2 (ji33)) (-17) t134 _ A44.out).mono ?_
      rintro e w' ⟨rfl, ⟨nd, rfl⟩⟩
      refine ⟨_, rfl, ?_⟩
      refine hK.out _ _ ⟨hHeld.1, hHeld.2⟩ (fun hHeld => ?_)
      clear hK K
      refine norm_ (a' := ?_) ?_ ?_
      rotate_left
      ·show Act.put _ (some 89) _ = _
       simp only [pr_]
       rfl
      refine one_ (i := 22) (N := some 91) #[true, true, true, true, true, true, true, true, true, true, true, true, true, true, true, true, true, true, true, true, true, true, true, false, true, true, false, false, false, false] rfl rfl (one_of HT_.out (by kernel_rfl)) (by decide) (fun K hK => ?_)
      refine goes_ Tryd.func95 (by kernel_rfl) rfl #[.int .u32 (rd x4_2 (ji33)), .int .i64 (-19)] (by rfl) rfl rfl (by (try simp only [List.map_toArray, List.map_cons, List.map_nil]); first | done | (simp only [hji33]; rfl) | rfl | (simp only [List.length_drop, List.length_take]; rfl)) ?_
      with_reducible refine (bits_RotateLeft32.calls (rd x4_2 (ji33)) (-19) t135 _ A45.out).mono ?_
      rintro e w' ⟨rfl, ⟨nd, rfl⟩⟩
      refine ⟨_, rfl, ?_⟩
      have qa48 : ((x6_2 : Int) < (64 : Int)) = True := eq_true (by have e_ : x4_2.length = 64 := od_ (by assumption); have h_ : (x6_2 : Int) < ((x4_2.length : Int) : Int) := od_ (by assumption); omega)
      have p48 : 0 ≤ (x6_2 : Int) := od_ (by assumption)
      have q48 : (x6_2 : Int) < ((x4_2.length : Int) : Int) := od_ (by assumption)
      obtain ⟨go48, co48, eo48, gb48, gl48, cl48, HG48⟩ := Kd.R_form HO_4.out (by omega)
      (first | cases eo48 | (injection eo48 with ea_ en_ ec_; (first | subst ea_ | (injection ea_ with ea_; subst ea_)); subst ec_; clear en_))
      have GB48 := Aside0.mk gb48
      have GG48 := Aside0.mk HG48
      clear gb48 gl48 HG48
      have HMgo48 := Aside0.mk (show (P0_ go48 ∨ w.heap.size ≤ go48) from (HO_4.out.1 _ rfl))
      (first | simp only [add_plain] at hx128_0 | skip)
      (first | simp only [add_plain] at hx129_0 | skip)
      (first | simp only [add_plain] at hx130_0 | skip)
      (first | simp only [add_plain] at hx131_0 | skip)
      obtain ⟨hx48_0, hf48_0⟩ := Kd.R_celln 0 HO_4.out (x6_2 : Int) p48 q48
      replace p48 := eq_true p48
      replace q48 := eq_true q48
      have HP52 := Kd.R_putn HO_4.out (x6_2 : Int) (((((rd x4_2 (ji36)) + (rd x4_2 (ji39))) + (Go.bits .xor .u32 (Go.bits .xor .u32 t132 t133) ((rd x4_2 (ji30)) / 8))) + (Go.bits .xor .u32 (Go.bits .xor .u32 t134 t135) ((rd x4_2 (ji33)) / 1024))) % 4294967296)
      rw [← Ny136.out] at HP52
      have HQ52 := Aside0.mk HP52
      clear HP52
      refine hK.out _ _ ⟨hHeld.1, hHeld.2⟩ (fun hHeld => ?_)
      clear hK K
      refine norm_ (a' := ?_) ?_ ?_
      rotate_left
      ·show Act.put _ (some 91) _ = _
       simp only [pr_]
       rfl
      refine runs_ [(23, some 92), (26, some 95), (27, some 96), (28, some 97)] ?_
      iterate 4 (refine pureL_ (v := ?_) (a' := ?_) rfl rfl (any_of HT_.out (by kernel_rfl)) (Or.inl ⟨by rfl, ?_⟩) ?_ ?_ (fun _ _ _ h => h); rotate_left; (intro w'; go_simp; with_reducible rfl); rotate_left; (simp only [pr_]; rfl))
      refine runsE_ ?_
      refine last_ (i := 29) (N := none) #[true, true, true, true, true, true, true, true, true, true, true, true, true, true, true, true, true, true, true, true, true, true, true, true, true, true, true, true, true, true] rfl rfl (one_of HT_.out (by kernel_rfl)) (by decide) (fun K hK => ?_)
      refine skip_set ⟨go48, (x6_2 : Int).toNat, none⟩ (.int .u32 (((((rd x4_2 (ji36)) + (rd x4_2 (ji39))) + (Go.bits .xor .u32 (Go.bits .xor .u32 t132 t133) ((rd x4_2 (ji30)) / 8))) + (Go.bits .xor .u32 (Go.bits .xor .u32 t134 t135) ((rd x4_2 (ji33)) / 1024))) % 4294967296)) (by rfl) rfl ?_ ?_
      ·first | (go_simp; done) | (go_simp; rfl) | (go_simp; (try simp only [IntKind.wrap_u32, IntKind.wrap_u8]); refine congrArg (fun v_ => World.setCell _ _ (Value.int _ v_)) ?_; omega)
      refine hK.out _ _ ?_
      clear hK K
      refine done_ (done_of HT_.out (by kernel_rfl)) ?_
      try go_wp2
      go_roundg k2
      case measure => have := HK1.out; have := HK2.out; omega
      case rel => exact ⟨(y136), (wrap64 (x6_2 + 1)), (by first | rfl | (simp; done) | (simp [*]; done) | (refine congrArg (Value.int _) ?_; first | omega | (unfold wrap64; omega))), H', ⟨by have := HK1.out; have := HK2.out; omega⟩, ⟨by (with_reducible repeat (first | apply Kd.R_alloc | apply Kd.R_drewN | apply Kd.R_drew)); exact Kd.R_mono (Kd.R_far (p := ⟨go48, (x6_2 : Int).toNat, none⟩) (Kd.R_types HO_0.out GG48.out (by decide)) (fun _ hk => hk.2) (.int .u32 (((((rd x4_2 (ji36)) + (rd x4_2 (ji39))) + (Go.bits .xor .u32 (Go.bits .xor .u32 t132 t133) ((rd x4_2 (ji30)) / 8))) + (Go.bits .xor .u32 (Go.bits .xor .u32 t134 t135) ((rd x4_2 (ji33)) / 1024))) % 4294967296))) (fun _ hk => hk.1)⟩, ⟨by (with_reducible repeat (first | apply Kd.R_alloc | apply Kd.R_drewN | apply Kd.R_drew)); exact HQ52.out⟩, ⟨by repeat (first | (with_reducible first | exact HK.out | apply Kept.alloc | apply Kept.drewN | apply Kept.drew | refine Kept.setCell ?_ HMgo48.out _) | exact HK.out)⟩, ⟨by repeat (first | (with_reducible first | exact HB.out | apply lA_ | apply lN_ | apply lD_ | refine lS_ ?_ GB48.out) | exact HB.out)⟩⟩
     rw [if_neg c28] at H
     have c28b0 : decide (x6_2 < 64) = false := decide_eq_false c28
     clear c28
     by_cases c53 : l0.length = 8
     rotate_left
     ·rw [if_neg c53] at H
      exact absurd H (by simp)
     rw [if_pos c53] at H
     have c53b0 := eq_true c53
     have c53b1 : decide (l0.length = 8) = true := decide_eq_true c53
     clear c53
     by_cases c54 : 0 < (l0.length : Int)
     rotate_left
     ·rw [if_neg c54] at H
      exact absurd H (by simp)
     rw [if_pos c54] at H
     have c54b0 : decide (0 < (l0.length : Int)) = true := decide_eq_true c54
     have c54b1 : decide (0 < l0.length) = true := decide_eq_true (by omega)
     clear c54
     by_cases c57 : 1 < (l0.length : Int)
     rotate_left
     ·rw [if_neg c57] at H
      exact absurd H (by simp)
     rw [if_pos c57] at H
     have c57b0 : decide (1 < (l0.length : Int)) = true := decide_eq_true c57
     have c57b1 : decide (1 < l0.length) = true := decide_eq_true (by omega)
     clear c57
     by_cases c59 : 2 < (l0.length : Int)
     rotate_left
     ·rw [if_neg c59] at H
      exact absurd H (by simp)
     rw [if_pos c59] at H
     have c59b0 : decide (2 < (l0.length : Int)) = true := decide_eq_true c59
     have c59b1 : decide (2 < l0.length) = true := decide_eq_true (by omega)
     clear c59
     by_cases c61 : 3 < (l0.length : Int)
     rotate_left
     ·rw [if_neg c61] at H
      exact absurd H (by simp)
     rw [if_pos c61] at H
     have c61b0 : decide (3 < (l0.length : Int)) = true := decide_eq_true c61
     have c61b1 : decide (3 < l0.length) = true := decide_eq_true (by omega)
     clear c61
     by_cases c63 : 4 < (l0.length : Int)
     rotate_left
     ·rw [if_neg c63] at H
      exact absurd H (by simp)
     rw [if_pos c63] at H
     have c63b0 : decide (4 < (l0.length : Int)) = true := decide_eq_true c63
     have c63b1 : decide (4 < l0.length) = true := decide_eq_true (by omega)
     clear c63
     by_cases c65 : 5 < (l0.length : Int)
     rotate_left
     ·rw [if_neg c65] at H
      exact absurd H (by simp)
     rw [if_pos c65] at H
     have c65b0 : decide (5 < (l0.length : Int)) = true := decide_eq_true c65
     have c65b1 : decide (5 < l0.length) = true := decide_eq_true (by omega)
     clear c65
     by_cases c67 : 6 < (l0.length : Int)
     rotate_left
     ·rw [if_neg c67] at H
      exact absurd H (by simp)
     rw [if_pos c67] at H
     have c67b0 : decide (6 < (l0.length : Int)) = true := decide_eq_true c67
     have c67b1 : decide (6 < l0.length) = true := decide_eq_true (by omega)
     clear c67
     by_cases c69 : 7 < (l0.length : Int)
     rotate_left
     ·rw [if_neg c69] at H
      exact absurd H (by simp)
     rw [if_pos c69] at H
     have c69b0 : decide (7 < (l0.length : Int)) = true := decide_eq_true c69
     have c69b1 : decide (7 < l0.length) = true := decide_eq_true (by omega)
     clear c69
     have H' := Aside0.mk H
     clear H
     try go_wp2
     have n0_ := Aside0.mk (Kd.R_drew HO_0.out)
     have n1_ := Aside0.mk (Kd.R_drew HO_4.out)
     have n2_ := Aside0.mk (Kept.drew HK.out)
     have n3_ := Aside0.mk (below_drew1 HB.out)
     clear HO_0
     clear HO_4
     clear HK
     clear HB
     have HO_0 := n0_
     have HO_4 := n1_
     have HK := n2_
     have HB := n3_
     clear n0_ n1_ n2_ n3_
     have qa55 : ((0 : Int) < (8 : Int)) = True := eq_true (by have e_ : l0.length = 8 := od_ (by assumption); have h_ : (0 : Int) < ((l0.length : Int) : Int) := od_ (by assumption); omega)
     have p55 : 0 ≤ (0 : Int) := (by omega)
     have q55 : (0 : Int) < ((l0.length : Int) : Int) := od_ (by assumption)
     have qi55 : (0 < l0.length) = True := eq_true (by omega)
     obtain ⟨go55, co55, eo55, gb55, gl55, cl55, HG55⟩ := Kd.R_form HO_0.out (by omega)
     (first | cases eo55 | (injection eo55 with ea_ en_ ec_; (first | subst ea_ | (injection ea_ with ea_; subst ea_)); subst ec_; clear en_))
     have GB55 := Aside0.mk gb55
     have GG55 := Aside0.mk HG55
     clear gb55 gl55 HG55
     have HMgo55 := Aside0.mk (show (P0_ go55 ∨ w.heap.size ≤ go55) from (HO_0.out.1 _ rfl))
     obtain ⟨hx55_0, hf55_0⟩ := Kd.R_celln 0 HO_0.out (0 : Int) p55 q55
     (try rw [show ((0 : Int)).toNat = 0 from rfl] at hx55_0)
     (try simp only [Nat.reduceMul, Nat.zero_mul, Nat.zero_add, Nat.reduceAdd] at hx55_0)
     (try rw [show ((0 : Int)).toNat = 0 from rfl] at hf55_0)
     (try simp only [Nat.reduceMul, Nat.zero_mul, Nat.zero_add, Nat.reduceAdd] at hf55_0)
     replace p55 := eq_true p55
     replace q55 := eq_true q55
     have qa137 : ((0 : Int) < (8 : Int)) = True := eq_true (by have e_ : l0.length = 8 := od_ (by assumption); have h_ : (0 : Int) < ((l0.length : Int) : Int) := od_ (by assumption); omega)
     have p137 : 0 ≤ (0 : Int) := (by omega)
     have q137 : 0 < (l0.length : Int) := od_ (by assumption)
     obtain ⟨ad137, e137, hx137_0⟩ := Kd.at_int (Kd.R_reads' HO_0.out).2.2 0 p137 q137
     obtain rfl : (⟨go55, 0, none⟩ : Addr) = ad137 := (by injection e137)
     (first | simp only [add_plain] at hx137_0 | simp only [add_at] at hx137_0 | simp only [Addr.add, Nat.zero_add] at hx137_0 | skip)
     have qi137 : (0 < l0.length) = True := eq_true (by omega)
     (try rw [show ((0 : Int)).toNat = 0 from rfl] at hx137_0)
     (try rw [Addr.add_zero'] at hx137_0)
     replace p137 := eq_true p137
     replace q137 := eq_true q137
     have qa56 : ((0 : Int) < (8 : Int)) = True := eq_true (by have e_ : l0.length = 8 := od_ (by assumption); have h_ : (0 : Int) < ((l0.length : Int) : Int) := od_ (by assumption); omega)
     have p56 : 0 ≤ (0 : Int) := (by omega)
     have q56 : (0 : Int) < ((l0.length : Int) : Int) := od_ (by assumption)
     have qi56 : (0 < l0.length) = True := eq_true (by omega)
     obtain ⟨hx56_0, hf56_0⟩ := Kd.R_celln 0 HO_0.out (0 : Int) p56 q56
     (try rw [show ((0 : Int)).toNat = 0 from rfl] at hx56_0)
     (try simp only [Nat.reduceMul, Nat.zero_mul, Nat.zero_add, Nat.reduceAdd] at hx56_0)
     (try rw [show ((0 : Int)).toNat = 0 from rfl] at hf56_0)
     (try simp only [Nat.reduceMul, Nat.zero_mul, Nat.zero_add, Nat.reduceAdd] at hf56_0)
     replace p56 := eq_true p56
     replace q56 := eq_true q56
     have qa138 : ((1 : Int) < (8 : Int)) = True := eq_true (by have e_ : l0.length = 8 := od_ (by assumption); have h_ : (1 : Int) < ((l0.length : Int) : Int) := od_ (by assumption); omega)
     have p138 : 0 ≤ (1 : Int) := (by omega)
     have q138 : 1 < (l0.length : Int) := od_ (by assumption)
     obtain ⟨ad138, e138, hx138_0⟩ := Kd.at_int (Kd.R_reads' HO_0.out).2.2 1 p138 q138
     obtain rfl : (⟨go55, 0, none⟩ : Addr) = ad138 := (by injection e138)
     (first | simp only [add_plain] at hx138_0 | simp only [add_at] at hx138_0 | simp only [Addr.add, Nat.zero_add] at hx138_0 | skip)
     have qi138 : (1 < l0.length) = True := eq_true (by omega)
     (try rw [show ((1 : Int)).toNat = 1 from rfl] at hx138_0)
     replace p138 := eq_true p138
     replace q138 := eq_true q138
     have qa58 : ((0 : Int) < (8 : Int)) = True := eq_true (by have e_ : l0.length = 8 := od_ (by assumption); have h_ : (0 : Int) < ((l0.length : Int) : Int) := od_ (by assumption); omega)
     have p58 : 0 ≤ (0 : Int) := (by omega)
     have q58 : (0 : Int) < ((l0.length : Int) : Int) := od_ (by assumption)
     have qi58 : (0 < l0.length) = True := eq_true (by omega)
     obtain ⟨hx58_0, hf58_0⟩ := Kd.R_celln 0 HO_0.out (0 : Int) p58 q58
     (try rw [show ((0 : Int)).toNat = 0 from rfl] at hx58_0)
     (try simp only [Nat.reduceMul, Nat.zero_mul, Nat.zero_add, Nat.reduceAdd] at hx58_0)
     (try rw [show ((0 : Int)).toNat = 0 from rfl] at hf58_0)
     (try simp only [Nat.reduceMul, Nat.zero_mul, Nat.zero_add, Nat.reduceAdd] at hf58_0)
     replace p58 := eq_true p58
     replace q58 := eq_true q58
     have qa139 : ((2 : Int) < (8 : Int)) = True := eq_true (by have e_ : l0.length = 8 := od_ (by assumption); have h_ : (2 : Int) < ((l0.length : Int) : Int) := od_ (by assumption); omega)
     have p139 : 0 ≤ (2 : Int) := (by omega)
     have q139 : 2 < (l0.length : Int) := od_ (by assumption)
     obtain ⟨ad139, e139, hx139_0⟩ := Kd.at_int (Kd.R_reads' HO_0.out).2.2 2 p139 q139
     obtain rfl : (⟨go55, 0, none⟩ : Addr) = ad139 := (by injection e139)
     (first | simp only [add_plain] at hx139_0 | simp only [add_at] at hx139_0 | simp only [Addr.add, Nat.zero_add] at hx139_0 | skip)
     have qi139 : (2 < l0.length) = True := eq_true (by omega)
     (try rw [show ((2 : Int)).toNat = 2 from rfl] at hx139_0)
     replace p139 := eq_true p139
     replace q139 := eq_true q139
     have qa60 : ((0 : Int) < (8 : Int)) = True := eq_true (by have e_ : l0.length = 8 := od_ (by assumption); have h_ : (0 : Int) < ((l0.length : Int) : Int) := od_ (by assumption); omega)
     have p60 : 0 ≤ (0 : Int) := (by omega)
     have q60 : (0 : Int) < ((l0.length : Int) : Int) := od_ (by assumption)
     have qi60 : (0 < l0.length) = True := eq_true (by omega)
     obtain ⟨hx60_0, hf60_0⟩ := Kd.R_celln 0 HO_0.out (0 : Int) p60 q60
     (try rw [show ((0 : Int)).toNat = 0 from rfl] at hx60_0)
     (try simp only [Nat.reduceMul, Nat.zero_mul, Nat.zero_add, Nat.reduceAdd] at hx60_0)
     (try rw [show ((0 : Int)).toNat = 0 from rfl] at hf60_0)
     (try simp only [Nat.reduceMul, Nat.zero_mul, Nat.zero_add, Nat.reduceAdd] at hf60_0)
     replace p60 := eq_true p60
     replace q60 := eq_true q60
     have qa140 : ((3 : Int) < (8 : Int)) = True := eq_true (by have e_ : l0.length = 8 := od_ (by assumption); have h_ : (3 : Int) < ((l0.length : Int) : Int) := od_ (by assumption); omega)
     have p140 : 0 ≤ (3 : Int) := (by omega)
     have q140 : 3 < (l0.length : Int) := od_ (by assumption)
     obtain ⟨ad140, e140, hx140_0⟩ := Kd.at_int (Kd.R_reads' HO_0.out).2.2 3 p140 q140
     obtain rfl : (⟨go55, 0, none⟩ : Addr) = ad140 := (by injection e140)
     (first | simp only [add_plain] at hx140_0 | simp only [add_at] at hx140_0 | simp only [Addr.add, Nat.zero_add] at hx140_0 | skip)
     have qi140 : (3 < l0.length) = True := eq_true (by omega)
     (try rw [show ((3 : Int)).toNat = 3 from rfl] at hx140_0)
     replace p140 := eq_true p140
     replace q140 := eq_true q140
     have qa62 : ((0 : Int) < (8 : Int)) = True := eq_true (by have e_ : l0.length = 8 := od_ (by assumption); have h_ : (0 : Int) < ((l0.length : Int) : Int) := od_ (by assumption); omega)
     have p62 : 0 ≤ (0 : Int) := (by omega)
     have q62 : (0 : Int) < ((l0.length : Int) : Int) := od_ (by assumption)
     have qi62 : (0 < l0.length) = True := eq_true (by omega)
     obtain ⟨hx62_0, hf62_0⟩ := Kd.R_celln 0 HO_0.out (0 : Int) p62 q62
     (try rw [show ((0 : Int)).toNat = 0 from rfl] at hx62_0)
     (try simp only [Nat.reduceMul, Nat.zero_mul, Nat.zero_add, Nat.reduceAdd] at hx62_0)
     (try rw [show ((0 : Int)).toNat = 0 from rfl] at hf62_0)
     (try simp only [Nat.reduceMul, Nat.zero_mul, Nat.zero_add, Nat.reduceAdd] at hf62_0)
     replace p62 := eq_true p62
     replace q62 := eq_true q62
     have qa141 : ((4 : Int) < (8 : Int)) = True := eq_true (by have e_ : l0.length = 8 := od_ (by assumption); have h_ : (4 : Int) < ((l0.length : Int) : Int) := od_ (by assumption); omega)
     have p141 : 0 ≤ (4 : Int) := (by omega)
     have q141 : 4 < (l0.length : Int) := od_ (by assumption)
     obtain ⟨ad141, e141, hx141_0⟩ := Kd.at_int (Kd.R_reads' HO_0.out).2.2 4 p141 q141
     obtain rfl : (⟨go55, 0, none⟩ : Addr) = ad141 := (by injection e141)
     (first | simp only [add_plain] at hx141_0 | simp only [add_at] at hx141_0 | simp only [Addr.add, Nat.zero_add] at hx141_0 | skip)
     have qi141 : (4 < l0.length) = True := eq_true (by omega)
     (try rw [show ((4 : Int)).toNat = 4 from rfl] at hx141_0)
     replace p141 := eq_true p141
     replace q141 := eq_true q141
     have qa64 : ((0 : Int) < (8 : Int)) = True := eq_true (by have e_ : l0.length = 8 := od_ (by assumption); have h_ : (0 : Int) < ((l0.length : Int) : Int) := od_ (by assumption); omega)
     have p64 : 0 ≤ (0 : Int) := (by omega)
     have q64 : (0 : Int) < ((l0.length : Int) : Int) := od_ (by assumption)
     have qi64 : (0 < l0.length) = True := eq_true (by omega)
     obtain ⟨hx64_0, hf64_0⟩ := Kd.R_celln 0 HO_0.out (0 : Int) p64 q64
     (try rw [show ((0 : Int)).toNat = 0 from rfl] at hx64_0)
     (try simp only [Nat.reduceMul, Nat.zero_mul, Nat.zero_add, Nat.reduceAdd] at hx64_0)
     (try rw [show ((0 : Int)).toNat = 0 from rfl] at hf64_0)
     (try simp only [Nat.reduceMul, Nat.zero_mul, Nat.zero_add, Nat.reduceAdd] at hf64_0)
     replace p64 := eq_true p64
     replace q64 := eq_true q64
     have qa142 : ((5 : Int) < (8 : Int)) = True := eq_true (by have e_ : l0.length = 8 := od_ (by assumption); have h_ : (5 : Int) < ((l0.length : Int) : Int) := od_ (by assumption); omega)
     have p142 : 0 ≤ (5 : Int) := (by omega)
     have q142 : 5 < (l0.length : Int) := od_ (by assumption)
     obtain ⟨ad142, e142, hx142_0⟩ := Kd.at_int (Kd.R_reads' HO_0.out).2.2 5 p142 q142
     obtain rfl : (⟨go55, 0, none⟩ : Addr) = ad142 := (by injection e142)
     (first | simp only [add_plain] at hx142_0 | simp only [add_at] at hx142_0 | simp only [Addr.add, Nat.zero_add] at hx142_0 | skip)
     have qi142 : (5 < l0.length) = True := eq_true (by omega)
     (try rw [show ((5 : Int)).toNat = 5 from rfl] at hx142_0)
     replace p142 := eq_true p142
     replace q142 := eq_true q142
     have qa66 : ((0 : Int) < (8 : Int)) = True := eq_true (by have e_ : l0.length = 8 := od_ (by assumption); have h_ : (0 : Int) < ((l0.length : Int) : Int) := od_ (by assumption); omega)
     have p66 : 0 ≤ (0 : Int) := (by omega)
     have q66 : (0 : Int) < ((l0.length : Int) : Int) := od_ (by assumption)
     have qi66 : (0 < l0.length) = True := eq_true (by omega)
     obtain ⟨hx66_0, hf66_0⟩ := Kd.R_celln 0 HO_0.out (0 : Int) p66 q66
     (try rw [show ((0 : Int)).toNat = 0 from rfl] at hx66_0)
     (try simp only [Nat.reduceMul, Nat.zero_mul, Nat.zero_add, Nat.reduceAdd] at hx66_0)
     (try rw [show ((0 : Int)).toNat = 0 from rfl] at hf66_0)
     (try simp only [Nat.reduceMul, Nat.zero_mul, Nat.zero_add, Nat.reduceAdd] at hf66_0)
     replace p66 := eq_true p66
     replace q66 := eq_true q66
     have qa143 : ((6 : Int) < (8 : Int)) = True := eq_true (by have e_ : l0.length = 8 := od_ (by assumption); have h_ : (6 : Int) < ((l0.length : Int) : Int) := od_ (by assumption); omega)
     have p143 : 0 ≤ (6 : Int) := (by omega)
     have q143 : 6 < (l0.length : Int) := od_ (by assumption)
     obtain ⟨ad143, e143, hx143_0⟩ := Kd.at_int (Kd.R_reads' HO_0.out).2.2 6 p143 q143
     obtain rfl : (⟨go55, 0, none⟩ : Addr) = ad143 := (by injection e143)
     (first | simp only [add_plain] at hx143_0 | simp only [add_at] at hx143_0 | simp only [Addr.add, Nat.zero_add] at hx143_0 | skip)
     have qi143 : (6 < l0.length) = True := eq_true (by omega)
     (try rw [show ((6 : Int)).toNat = 6 from rfl] at hx143_0)
     replace p143 := eq_true p143
     replace q143 := eq_true q143
     have qa68 : ((0 : Int) < (8 : Int)) = True := eq_true (by have e_ : l0.length = 8 := od_ (by assumption); have h_ : (0 : Int) < ((l0.length : Int) : Int) := od_ (by assumption); omega)
     have p68 : 0 ≤ (0 : Int) := (by omega)
     have q68 : (0 : Int) < ((l0.length : Int) : Int) := od_ (by assumption)
     have qi68 : (0 < l0.length) = True := eq_true (by omega)
     obtain ⟨hx68_0, hf68_0⟩ := Kd.R_celln 0 HO_0.out (0 : Int) p68 q68
     (try rw [show ((0 : Int)).toNat = 0 from rfl] at hx68_0)
     (try simp only [Nat.reduceMul, Nat.zero_mul, Nat.zero_add, Nat.reduceAdd] at hx68_0)
     (try rw [show ((0 : Int)).toNat = 0 from rfl] at hf68_0)
     (try simp only [Nat.reduceMul, Nat.zero_mul, Nat.zero_add, Nat.reduceAdd] at hf68_0)
     replace p68 := eq_true p68
     replace q68 := eq_true q68
     have qa144 : ((7 : Int) < (8 : Int)) = True := eq_true (by have e_ : l0.length = 8 := od_ (by assumption); have h_ : (7 : Int) < ((l0.length : Int) : Int) := od_ (by assumption); omega)
     have p144 : 0 ≤ (7 : Int) := (by omega)
     have q144 : 7 < (l0.length : Int) := od_ (by assumption)
     obtain ⟨ad144, e144, hx144_0⟩ := Kd.at_int (Kd.R_reads' HO_0.out).2.2 7 p144 q144
     obtain rfl : (⟨go55, 0, none⟩ : Addr) = ad144 := (by injection e144)
     (first | simp only [add_plain] at hx144_0 | simp only [add_at] at hx144_0 | simp only [Addr.add, Nat.zero_add] at hx144_0 | skip)
     have qi144 : (7 < l0.length) = True := eq_true (by omega)
     (try rw [show ((7 : Int)).toNat = 7 from rfl] at hx144_0)
     replace p144 := eq_true p144
     replace q144 := eq_true q144
     refine start_ (n := 40) (S := fun w' => w'.cell? ⟨go55, 0, none⟩ = some (.int .u32 (rd l0 0)) ∧ w'.cell? ⟨go55, 1, none⟩ = some (.int .u32 (rd l0 1)) ∧ w'.cell? ⟨go55, 2, none⟩ = some (.int .u32 (rd l0 2)) ∧ w'.cell? ⟨go55, 3, none⟩ = some (.int .u32 (rd l0 3)) ∧ w'.cell? ⟨go55, 4, none⟩ = some (.int .u32 (rd l0 4)) ∧ w'.cell? ⟨go55, 5, none⟩ = some (.int .u32 (rd l0 5)) ∧ w'.cell? ⟨go55, 6, none⟩ = some (.int .u32 (rd l0 6)) ∧ w'.cell? ⟨go55, 7, none⟩ = some (.int .u32 (rd l0 7))) (ds := []) #[false, false, false, false, false, false, false, false, false, false, false, false, false, false, false, false, false, false, false, false, false, false, false, false, false, false, false, false, false, false, false, false, false, false, false, false, false, false, false, false] (by kernel_rfl) rfl rfl ⟨hx137_0, hx138_0, hx139_0, hx140_0, hx141_0, hx142_0, hx143_0, hx144_0⟩ (fun hHeld => ?_); refine with_tabW sha_state_block.tab11 sha_state_block.bits11 (fun HT_ HW_ => ?_)
     generalize wr.drew = w70 at HO_0 HO_4 HK HB GG55 hf55_0 hf56_0 hf58_0 hf60_0 hf62_0 hf64_0 hf66_0 hf68_0 hx137_0 hx138_0 hx139_0 hx140_0 hx141_0 hx142_0 hx143_0 hx144_0 hx55_0 hx56_0 hx58_0 hx60_0 hx62_0 hx64_0 hx66_0 hx68_0 hHeld ⊢
     refine runs_ [(0, some 98), (1, some 99), (2, some 100), (4, some 102), (5, some 103), (6, some 104), (8, some 106), (9, some 107), (10, some 108), (12, some 110), (13, some 111), (14, some 112), (16, some 114), (17, some 115), (18, some 116), (20, some 118), (21, some 119), (22, some 120), (24, some 122), (25, some 123), (26, some 124), (28, some 126), (29, some 127), (30, some 128)] ?_
     iterate 24 (refine pureL_ (v := ?_) (a' := ?_) rfl rfl (any_of HT_.out (by kernel_rfl)) (Or.inl ⟨by rfl, ?_⟩) ?_ ?_ (fun _ _ _ h => h); rotate_left; (intro w'; go_simp; with_reducible rfl); rotate_left; (simp only [pr_]; rfl))
     refine runsE_ ?_
     refine take_ (i := 3) (N := some 101) (v := ?_) (a' := ?_) #[true, true, true, true, true, true, true, false, true, true, true, false, true, true, true, false, true, true, true, false, true, true, true, false, true, true, true, false, true, true, true, false, false, false, false, false, false, false, false, false] rfl rfl (take_ofW HT_.out HW_.out (by kernel_rfl)) (fun _ _ _ h => h) (Or.inl ⟨by rfl, ?_⟩) hHeld ?_ ?_
     rotate_left
     ·rintro w' ⟨s0, s1, s2, s3, s4, s5, s6, s7⟩
      go_simp
      with_reducible rfl
     rotate_left
     ·simp only [pr_]
      rfl
     refine pure_ (i := 32) (N := some 9) (v := ?_) (a' := ?_) #[true, true, true, true, true, true, true, false, true, true, true, false, true, true, true, false, true, true, true, false, true, true, true, false, true, true, true, false, true, true, true, false, true, false, false, false, false, false, false, false] rfl rfl (any_of HT_.out (by kernel_rfl)) (fun _ _ _ h => h) (Or.inl ⟨by rfl, ?_⟩) ?_ ?_
     rotate_left
     ·intro w'
      go_simp
      with_reducible rfl
     rotate_left
     ·simp only [pr_]
      rfl
     refine take_ (i := 7) (N := some 105) (v := ?_) (a' := ?_) #[true, true, true, true, true, true, true, true, true, true, true, false, true, true, true, false, true, true, true, false, true, true, true, false, true, true, true, false, true, true, true, false, true, false, false, false, false, false, false, false] rfl rfl (take_ofW HT_.out HW_.out (by kernel_rfl)) (fun _ _ _ h => h) (Or.inl ⟨by rfl, ?_⟩) hHeld ?_ ?_
     rotate_left
     ·rintro w' ⟨s0, s1, s2, s3, s4, s5, s6, s7⟩
      go_simp
      with_reducible rfl
     rotate_left
     ·simp only [pr_]
      rfl
     refine pure_ (i := 33) (N := some 10) (v := ?_) (a' := ?_) #[true, true, true, true, true, true, true, true, true, true, true, false, true, true, true, false, true, true, true, false, true, true, true, false, true, true, true, false, true, true, true, false, true, true, false, false, false, false, false, false] rfl rfl (any_of HT_.out (by kernel_rfl)) (fun _ _ _ h => h) (Or.inl ⟨by rfl, ?_⟩) ?_ ?_
     rotate_left
     ·intro w'
      go_simp
      with_reducible rfl
     rotate_left
     ·simp only [pr_]
      rfl
     refine take_ (i := 11) (N := some 109) (v := ?_) (a' := ?_) #[true, true, true, true, true, true, true, true, true, true, true, true, true, true, true, false, true, true, true, false, true, true, true, false, true, true, true, false, true, true, true, false, true, true, false, false, false, false, false, false] rfl rfl (take_ofW HT_.out HW_.out (by kernel_rfl)) (fun _ _ _ h => h) (Or.inl ⟨by rfl, ?_⟩) hHeld ?_ ?_
     rotate_left
     ·rintro w' ⟨s0, s1, s2, s3, s4, s5, s6, s7⟩
      go_simp
      with_reducible rfl
     rotate_left
     ·simp only [pr_]
      rfl
     refine pure_ (i := 34) (N := some 11) (v := ?_) (a' := ?_) #[true, true, true, true, true, true, true, true, true, true, true, true, true, true, true, false, true, true, true, false, true, true, true, false, true, true, true, false, true, true, true, false, true, true, true, false, false, false, false, false] rfl rfl (any_of HT_.out (by kernel_rfl)) (fun _ _ _ h => h) (Or.inl ⟨by rfl, ?_⟩) ?_ ?_
     rotate_left
     ·intro w'
      go_simp
      with_reducible rfl
     rotate_left
     ·simp only [pr_]
      rfl
     refine take_ (i := 15) (N := some 113) (v := ?_) (a' := ?_) #[true, true, true, true, true, true, true, true, true, true, true, true, true, true, true, true, true, true, true, false, true, true, true, false, true, true, true, false, true, true, true, false, true, true, true, false, false, false, false, false] rfl rfl (take_ofW HT_.out HW_.out (by kernel_rfl)) (fun _ _ _ h => h) (Or.inl ⟨by rfl, ?_⟩) hHeld ?_ ?_
     rotate_left
     ·rintro w' ⟨s0, s1, s2, s3, s4, s5, s6, s7⟩
      go_simp
      with_reducible rfl
     rotate_left
     ·simp only [pr_]
      rfl
     refine pure_ (i := 35) (N := some 12) (v := ?_) (a' := ?_) #[true, true, true, true, true, true, true, true, true, true, true, true, true, true, true, true, true, true, true, false, true, true, true, false, true, true, true, false, true, true, true, false, true, true, true, true, false, false, false, false] rfl rfl (any_of HT_.out (by kernel_rfl)) (fun _ _ _ h => h) (Or.inl ⟨by rfl, ?_⟩) ?_ ?_
     rotate_left
     ·intro w'
      go_simp
      with_reducible rfl
     rotate_left
     ·simp only [pr_]
      rfl
     refine take_ (i := 19) (N := some 117) (v := ?_) (a' := ?_) #[true, true, true, true, true, true, true, true, true, true, true, true, true, true, true, true, true, true, true, true, true, true, true, false, true, true, true, false, true, true, true, false, true, true, true, true, false, false, false, false] rfl rfl (take_ofW HT_.out HW_.out (by kernel_rfl)) (fun _ _ _ h => h) (Or.inl ⟨by rfl, ?_⟩) hHeld ?_ ?_
     rotate_left
     ·rintro w' ⟨s0, s1, s2, s3, s4, s5, s6, s7⟩
      go_simp
      with_reducible rfl
     rotate_left
     ·simp only [pr_]
      rfl
     refine pure_ (i := 36) (N := some 13) (v := ?_) (a' := ?_) #[true, true, true, true, true, true, true, true, true, true, true, true, true, true, true, true, true, true, true, true, true, true, true, false, true, true, true, false, true, true, true, false, true, true, true, true, true, false, false, false] rfl rfl (any_of HT_.out (by kernel_rfl)) (fun _ _ _ h => h) (Or.inl ⟨by rfl, ?_⟩) ?_ ?_
     rotate_left
     ·intro w'
      go_simp
      with_reducible rfl
     rotate_left
     ·simp only [pr_]
      rfl
     refine take_ (i := 23) (N := some 121) (v := ?_) (a' := ?_) #[true, true, true, true, true, true, true, true, true, true, true, true, true, true, true, true, true, true, true, true, true, true, true, true, true, true, true, false, true, true, true, false, true, true, true, true, true, false, false, false] rfl rfl (take_ofW HT_.out HW_.out (by kernel_rfl)) (fun _ _ _ h => h) (Or.inl ⟨by rfl, ?_⟩) hHeld ?_ ?_
     rotate_left
     ·rintro w' ⟨s0, s1, s2, s3, s4, s5, s6, s7⟩
      go_simp
      with_reducible rfl
     rotate_left
     ·simp only [pr_]
      rfl
     refine pure_ (i := 37) (N := some 14) (v := ?_) (a' := ?_) #[true, true, true, true, true, true, true, true, true, true, true, true, true, true, true, true, true, true, true, true, true, true, true, true, true, true, true, false, true, true, true, false, true, true, true, true, true, true, false, false] rfl rfl (any_of HT_.out (by kernel_rfl)) (fun _ _ _ h => h) (Or.inl ⟨by rfl, ?_⟩) ?_ ?_
     rotate_left
     ·intro w'
      go_simp
      with_reducible rfl
     rotate_left
     ·simp only [pr_]
      rfl
     refine take_ (i := 27) (N := some 125) (v := ?_) (a' := ?_) #[true, true, true, true, true, true, true, true, true, true, true, true, true, true, true, true, true, true, true, true, true, true, true, true, true, true, true, true, true, true, true, false, true, true, true, true, true, true, false, false] rfl rfl (take_ofW HT_.out HW_.out (by kernel_rfl)) (fun _ _ _ h => h) (Or.inl ⟨by rfl, ?_⟩) hHeld ?_ ?_
     rotate_left
     ·rintro w' ⟨s0, s1, s2, s3, s4, s5, s6, s7⟩
      go_simp
      with_reducible rfl
     rotate_left
     ·simp only [pr_]
      rfl
     refine pure_ (i := 38) (N := some 15) (v := ?_) (a' := ?_) #[true, true, true, true, true, true, true, true, true, true, true, true, true, true, true, true, true, true, true, true, true, true, true, true, true, true, true, true, true, true, true, false, true, true, true, true, true, true, true, false] rfl rfl (any_of HT_.out (by kernel_rfl)) (fun _ _ _ h => h) (Or.inl ⟨by rfl, ?_⟩) ?_ ?_
     rotate_left
     ·intro w'
      go_simp
      with_reducible rfl
     rotate_left
     ·simp only [pr_]
      rfl
     refine take_ (i := 31) (N := some 129) (v := ?_) (a' := ?_) #[true, true, true, true, true, true, true, true, true, true, true, true, true, true, true, true, true, true, true, true, true, true, true, true, true, true, true, true, true, true, true, true, true, true, true, true, true, true, true, false] rfl rfl (take_ofW HT_.out HW_.out (by kernel_rfl)) (fun _ _ _ h => h) (Or.inl ⟨by rfl, ?_⟩) hHeld ?_ ?_
     rotate_left
     ·rintro w' ⟨s0, s1, s2, s3, s4, s5, s6, s7⟩
      go_simp
      with_reducible rfl
     rotate_left
     ·simp only [pr_]
      rfl
     refine pure_ (i := 39) (N := some 16) (v := ?_) (a' := ?_) #[true, true, true, true, true, true, true, true, true, true, true, true, true, true, true, true, true, true, true, true, true, true, true, true, true, true, true, true, true, true, true, true, true, true, true, true, true, true, true, true] rfl rfl (any_of HT_.out (by kernel_rfl)) (fun _ _ _ h => h) (Or.inl ⟨by rfl, ?_⟩) ?_ ?_
     rotate_left
     ·intro w'
      go_simp
      with_reducible rfl
     rotate_left
     ·simp only [pr_]
      rfl
     refine done_ (done_of HT_.out (by kernel_rfl)) ?_
     try go_wp2
     go_loopg [9, 10, 11, 12, 13, 14, 15, 16, 130] k2 (fun kq v9 v10 v11 v12 v13 v14 v15 v16 v130 w' => ∃ (x9_3 : Int) (x10_3 : Int) (x11_3 : Int) (x12_3 : Int) (x13_3 : Int) (x14_3 : Int) (x15_3 : Int) (x16_3 : Int) (x130_3 : Int), v9 = .int .u32 x9_3 ∧ v10 = .int .u32 x10_3 ∧ v11 = .int .u32 x11_3 ∧ v12 = .int .u32 x12_3 ∧ v13 = .int .u32 x13_3 ∧ v14 = .int .u32 x14_3 ∧ v15 = .int .u32 x15_3 ∧ v16 = .int .u32 x16_3 ∧ v130 = .int .i64 x130_3 ∧ Aside0 (sha_state_block.l2 kq l0 x4_2 x9_3 x10_3 x11_3 x12_3 x13_3 x14_3 x15_3 x16_3 x130_3 = some r) ∧ Aside0 (kq ≤ k2) ∧ Aside0 (Kd.R (Kd.int .u32) 106 w' w0.heap.size (fun k_ => (P0_ k_ ∨ w.heap.size ≤ k_)) (.slice (some ⟨go55, 0, none⟩) l0.length co55) l0) ∧ Aside0 (Kd.R (Kd.int .u32) 113 w' w0.heap.size (fun k_ => (P0_ k_ ∨ w.heap.size ≤ k_)) v125 x4_2) ∧ Aside0 (Kept w w' (fun k_ => P0_ k_)) ∧ Aside0 (Below w0.heap.size w0 w'))
     case atStart => exact ⟨(rd l0 0), (rd l0 1), (rd l0 2), (rd l0 3), (rd l0 4), (rd l0 5), (rd l0 6), (rd l0 7), (0), (by first | rfl | (simp; done) | (simp [*]; done) | (refine congrArg (Value.int _) ?_; first | omega | (unfold wrap64; omega))), (by first | rfl | (simp; done) | (simp [*]; done) | (refine congrArg (Value.int _) ?_; first | omega | (unfold wrap64; omega))), (by first | rfl | (simp; done) | (simp [*]; done) | (refine congrArg (Value.int _) ?_; first | omega | (unfold wrap64; omega))), (by first | rfl | (simp; done) | (simp [*]; done) | (refine congrArg (Value.int _) ?_; first | omega | (unfold wrap64; omega))), (by first | rfl | (simp; done) | (simp [*]; done) | (refine congrArg (Value.int _) ?_; first | omega | (unfold wrap64; omega))), (by first | rfl | (simp; done) | (simp [*]; done) | (refine congrArg (Value.int _) ?_; first | omega | (unfold wrap64; omega))), (by first | rfl | (simp; done) | (simp [*]; done) | (refine congrArg (Value.int _) ?_; first | omega | (unfold wrap64; omega))), (by first | rfl | (simp; done) | (simp [*]; done) | (refine congrArg (Value.int _) ?_; first | omega | (unfold wrap64; omega))), (by first | rfl | (simp; done) | (simp [*]; done) | (refine congrArg (Value.int _) ?_; first | omega | (unfold wrap64; omega))), H', ⟨Nat.le_refl _⟩, ⟨by (with_reducible repeat (first | apply Kd.R_alloc | apply Kd.R_drewN | apply Kd.R_drew)); exact HO_0.out⟩, ⟨by (with_reducible repeat (first | apply Kd.R_alloc | apply Kd.R_drewN | apply Kd.R_drew)); exact HO_4.out⟩, ⟨by repeat (first | (with_reducible first | exact HK.out | apply Kept.alloc | apply Kept.drewN | apply Kept.drew) | exact HK.out)⟩, ⟨by repeat (first | (with_reducible first | exact HB.out | apply lA_ | apply lN_ | apply lD_) | exact HB.out)⟩⟩
     case round =>
      clear H'
      (try clear p1); (try clear q1); (try clear hx1); (try clear qi1); (try clear c2); (try clear p2); (try clear c3); (try clear c4); (try clear c5); (try clear p5); (try clear q5); (try clear hx5); (try clear qi5); (try clear hf5); (try clear c6); (try clear p6); (try clear q6); (try clear hx6); (try clear qi6); (try clear hf6); (try clear p13); (try clear q13); (try clear hx13); (try clear qi13); (try clear p14); (try clear q14); (try clear hx14); (try clear qi14); (try clear c28); (try clear c28b0); (try clear c29); (try clear c31); (try clear c32); (try clear c34); (try clear c35); (try clear c37); (try clear c38); (try clear c40); (try clear c41); (try clear c46); (try clear c47); (try clear c53); (try clear c53b0); (try clear c53b1); (try clear c54); (try clear c54b0); (try clear c54b1); (try clear p55); (try clear q55); (try clear hx55); (try clear qi55); (try clear hf55); (try clear p56); (try clear q56); (try clear hx56); (try clear qi56); (try clear hf56); (try clear c57); (try clear c57b0); (try clear c57b1); (try clear p58); (try clear q58); (try clear hx58); (try clear qi58); (try clear hf58); (try clear c59); (try clear c59b0); (try clear c59b1); (try clear p60); (try clear q60); (try clear hx60); (try clear qi60); (try clear hf60); (try clear c61); (try clear c61b0); (try clear c61b1); (try clear p62); (try clear q62); (try clear hx62); (try clear qi62); (try clear hf62); (try clear c63); (try clear c63b0); (try clear c63b1); (try clear p64); (try clear q64); (try clear hx64); (try clear qi64); (try clear hf64); (try clear c65); (try clear c65b0); (try clear c65b1); (try clear p66); (try clear q66); (try clear hx66); (try clear qi66); (try clear hf66); (try clear c67); (try clear c67b0); (try clear c67b1); (try clear p68); (try clear q68); (try clear hx68); (try clear qi68); (try clear hf68); (try clear c69); (try clear c69b0); (try clear c69b1); (try clear hx137_0); (try clear hx138_0); (try clear hx139_0); (try clear hx140_0); (try clear hx141_0); (try clear hx142_0); (try clear hx143_0); (try clear hx144_0); (try clear hx55_0); (try clear hx56_0); (try clear hx58_0); (try clear hx60_0); (try clear hx62_0); (try clear hx64_0); (try clear hx66_0); (try clear hx68_0); (try clear p137); (try clear p138); (try clear p139); (try clear p140); (try clear p141); (try clear p142); (try clear p143); (try clear p144); (try clear p55); (try clear p56); (try clear p58); (try clear p60); (try clear p62); (try clear p64); (try clear p66); (try clear p68); (try clear q137); (try clear q138); (try clear q139); (try clear q140); (try clear q141); (try clear q142); (try clear q143); (try clear q144); (try clear q55); (try clear q56); (try clear q58); (try clear q60); (try clear q62); (try clear q64); (try clear q66); (try clear q68)
      obtain ⟨x9_3, x10_3, x11_3, x12_3, x13_3, x14_3, x15_3, x16_3, x130_3, rfl, rfl, rfl, rfl, rfl, rfl, rfl, rfl, rfl, HA, HK3, HO_0, HO_4, HK, HB⟩ := hrel
      cases gk with
      | zero => exact absurd HA.out (by simp [sha_state_block.l2])
      | succ k3 =>
       have H := HA.out
       clear HA
       simp only [sha_state_block.l2] at H
       by_cases c71 : x130_3 < 64
       ·rw [if_pos c71] at H
        have c71b0 : decide (x130_3 < 64) = true := decide_eq_true c71
        clear c71
        replace H := ob_ H
        obtain ⟨t145, A720, H⟩ := H
        replace H : ((bits_RotateLeft32.f x13_3 (-11)).bind fun t146 => ((bits_RotateLeft32.f x13_3 (-25)).bind fun t147 => (if keysL.length = 64 then (if 0 ≤ x130_3 then (if x130_3 < (keysL.length : Int) then (if x4_2.length = 64 then (if x130_3 < (x4_2.length : Int) then ((bits_RotateLeft32.f x9_3 (-2)).bind fun t150 => ((bits_RotateLeft32.f x9_3 (-13)).bind fun t151 => ((bits_RotateLeft32.f x9_3 (-22)).bind fun t152 => (sha_state_block.l2 k3 l0 x4_2 ((((((x16_3 + (Go.bits .xor .u32 (Go.bits .xor .u32 t145 t146) t147)) + (Go.bits .xor .u32 (Go.bits .and .u32 x13_3 x14_3) (Go.bits .and .u32 (Go.bits .xor .u32 4294967295 x13_3) x15_3))) + (rd keysL x130_3)) + (rd x4_2 x130_3)) + ((Go.bits .xor .u32 (Go.bits .xor .u32 t150 t151) t152) + (Go.bits .xor .u32 (Go.bits .xor .u32 (Go.bits .and .u32 x9_3 x10_3) (Go.bits .and .u32 x9_3 x11_3)) (Go.bits .and .u32 x10_3 x11_3)))) % 4294967296) x9_3 x10_3 x11_3 ((x12_3 + ((((x16_3 + (Go.bits .xor .u32 (Go.bits .xor .u32 t145 t146) t147)) + (Go.bits .xor .u32 (Go.bits .and .u32 x13_3 x14_3) (Go.bits .and .u32 (Go.bits .xor .u32 4294967295 x13_3) x15_3))) + (rd keysL x130_3)) + (rd x4_2 x130_3))) % 4294967296) x13_3 x14_3 x15_3 (wrap64 (x130_3 + 1)))))) else (none)) else (none)) else (none)) else (none)) else (none)))) = some r := H
        have A72 := Aside0.mk A720
        clear A720
        replace H := ob_ H
        obtain ⟨t146, A730, H⟩ := H
        replace H : ((bits_RotateLeft32.f x13_3 (-25)).bind fun t147 => (if keysL.length = 64 then (if 0 ≤ x130_3 then (if x130_3 < (keysL.length : Int) then (if x4_2.length = 64 then (if x130_3 < (x4_2.length : Int) then ((bits_RotateLeft32.f x9_3 (-2)).bind fun t150 => ((bits_RotateLeft32.f x9_3 (-13)).bind fun t151 => ((bits_RotateLeft32.f x9_3 (-22)).bind fun t152 => (sha_state_block.l2 k3 l0 x4_2 ((((((x16_3 + (Go.bits .xor .u32 (Go.bits .xor .u32 t145 t146) t147)) + (Go.bits .xor .u32 (Go.bits .and .u32 x13_3 x14_3) (Go.bits .and .u32 (Go.bits .xor .u32 4294967295 x13_3) x15_3))) + (rd keysL x130_3)) + (rd x4_2 x130_3)) + ((Go.bits .xor .u32 (Go.bits .xor .u32 t150 t151) t152) + (Go.bits .xor .u32 (Go.bits .xor .u32 (Go.bits .and .u32 x9_3 x10_3) (Go.bits .and .u32 x9_3 x11_3)) (Go.bits .and .u32 x10_3 x11_3)))) % 4294967296) x9_3 x10_3 x11_3 ((x12_3 + ((((x16_3 + (Go.bits .xor .u32 (Go.bits .xor .u32 t145 t146) t147)) + (Go.bits .xor .u32 (Go.bits .and .u32 x13_3 x14_3) (Go.bits .and .u32 (Go.bits .xor .u32 4294967295 x13_3) x15_3))) + (rd keysL x130_3)) + (rd x4_2 x130_3))) % 4294967296) x13_3 x14_3 x15_3 (wrap64 (x130_3 + 1)))))) else (none)) else (none)) else (none)) else (none)) else (none))) = some r := H
        have A73 := Aside0.mk A730
        clear A730
        replace H := ob_ H
        obtain ⟨t147, A740, H⟩ := H
        replace H : (if keysL.length = 64 then (if 0 ≤ x130_3 then (if x130_3 < (keysL.length : Int) then (if x4_2.length = 64 then (if x130_3 < (x4_2.length : Int) then ((bits_RotateLeft32.f x9_3 (-2)).bind fun t150 => ((bits_RotateLeft32.f x9_3 (-13)).bind fun t151 => ((bits_RotateLeft32.f x9_3 (-22)).bind fun t152 => (sha_state_block.l2 k3 l0 x4_2 ((((((x16_3 + (Go.bits .xor .u32 (Go.bits .xor .u32 t145 t146) t147)) + (Go.bits .xor .u32 (Go.bits .and .u32 x13_3 x14_3) (Go.bits .and .u32 (Go.bits .xor .u32 4294967295 x13_3) x15_3))) + (rd keysL x130_3)) + (rd x4_2 x130_3)) + ((Go.bits .xor .u32 (Go.bits .xor .u32 t150 t151) t152) + (Go.bits .xor .u32 (Go.bits .xor .u32 (Go.bits .and .u32 x9_3 x10_3) (Go.bits .and .u32 x9_3 x11_3)) (Go.bits .and .u32 x10_3 x11_3)))) % 4294967296) x9_3 x10_3 x11_3 ((x12_3 + ((((x16_3 + (Go.bits .xor .u32 (Go.bits .xor .u32 t145 t146) t147)) + (Go.bits .xor .u32 (Go.bits .and .u32 x13_3 x14_3) (Go.bits .and .u32 (Go.bits .xor .u32 4294967295 x13_3) x15_3))) + (rd keysL x130_3)) + (rd x4_2 x130_3))) % 4294967296) x13_3 x14_3 x15_3 (wrap64 (x130_3 + 1)))))) else (none)) else (none)) else (none)) else (none)) else (none)) = some r := H
        have A74 := Aside0.mk A740
        clear A740
        by_cases c75 : keysL.length = 64
        rotate_left
        ·rw [if_neg c75] at H
         exact absurd H (by simp)
        rw [if_pos c75] at H
        have c75b0 := eq_true c75
        have c75b1 : decide (keysL.length = 64) = true := decide_eq_true c75
        clear c75
        by_cases c76 : 0 ≤ x130_3
        rotate_left
        ·rw [if_neg c76] at H
         exact absurd H (by simp)
        rw [if_pos c76] at H
        have c76b0 : decide (0 ≤ x130_3) = true := decide_eq_true c76
        clear c76
        by_cases c77 : x130_3 < (keysL.length : Int)
        rotate_left
        ·rw [if_neg c77] at H
         exact absurd H (by simp)
        rw [if_pos c77] at H
        have c77b0 : decide (x130_3 < (keysL.length : Int)) = true := decide_eq_true c77
        clear c77
        by_cases c78 : x4_2.length = 64
        rotate_left
        ·rw [if_neg c78] at H
         exact absurd H (by simp)
        rw [if_pos c78] at H
        have c78b0 := eq_true c78
        have c78b1 : decide (x4_2.length = 64) = true := decide_eq_true c78
        clear c78
        by_cases c79 : x130_3 < (x4_2.length : Int)
        rotate_left
        ·rw [if_neg c79] at H
         exact absurd H (by simp)
        rw [if_pos c79] at H
        have c79b0 : decide (x130_3 < (x4_2.length : Int)) = true := decide_eq_true c79
        clear c79
        replace H := ob_ H
        obtain ⟨t150, A800, H⟩ := H
        replace H : ((bits_RotateLeft32.f x9_3 (-13)).bind fun t151 => ((bits_RotateLeft32.f x9_3 (-22)).bind fun t152 => (sha_state_block.l2 k3 l0 x4_2 ((((((x16_3 + (Go.bits .xor .u32 (Go.bits .xor .u32 t145 t146) t147)) + (Go.bits .xor .u32 (Go.bits .and .u32 x13_3 x14_3) (Go.bits .and .u32 (Go.bits .xor .u32 4294967295 x13_3) x15_3))) + (rd keysL x130_3)) + (rd x4_2 x130_3)) + ((Go.bits .xor .u32 (Go.bits .xor .u32 t150 t151) t152) + (Go.bits .xor .u32 (Go.bits .xor .u32 (Go.bits .and .u32 x9_3 x10_3) (Go.bits .and .u32 x9_3 x11_3)) (Go.bits .and .u32 x10_3 x11_3)))) % 4294967296) x9_3 x10_3 x11_3 ((x12_3 + ((((x16_3 + (Go.bits .xor .u32 (Go.bits .xor .u32 t145 t146) t147)) + (Go.bits .xor .u32 (Go.bits .and .u32 x13_3 x14_3) (Go.bits .and .u32 (Go.bits .xor .u32 4294967295 x13_3) x15_3))) + (rd keysL x130_3)) + (rd x4_2 x130_3))) % 4294967296) x13_3 x14_3 x15_3 (wrap64 (x130_3 + 1))))) = some r := H
        have A80 := Aside0.mk A800
        clear A800
        replace H := ob_ H
        obtain ⟨t151, A810, H⟩ := H
        replace H : ((bits_RotateLeft32.f x9_3 (-22)).bind fun t152 => (sha_state_block.l2 k3 l0 x4_2 ((((((x16_3 + (Go.bits .xor .u32 (Go.bits .xor .u32 t145 t146) t147)) + (Go.bits .xor .u32 (Go.bits .and .u32 x13_3 x14_3) (Go.bits .and .u32 (Go.bits .xor .u32 4294967295 x13_3) x15_3))) + (rd keysL x130_3)) + (rd x4_2 x130_3)) + ((Go.bits .xor .u32 (Go.bits .xor .u32 t150 t151) t152) + (Go.bits .xor .u32 (Go.bits .xor .u32 (Go.bits .and .u32 x9_3 x10_3) (Go.bits .and .u32 x9_3 x11_3)) (Go.bits .and .u32 x10_3 x11_3)))) % 4294967296) x9_3 x10_3 x11_3 ((x12_3 + ((((x16_3 + (Go.bits .xor .u32 (Go.bits .xor .u32 t145 t146) t147)) + (Go.bits .xor .u32 (Go.bits .and .u32 x13_3 x14_3) (Go.bits .and .u32 (Go.bits .xor .u32 4294967295 x13_3) x15_3))) + (rd keysL x130_3)) + (rd x4_2 x130_3))) % 4294967296) x13_3 x14_3 x15_3 (wrap64 (x130_3 + 1)))) = some r := H
        have A81 := Aside0.mk A810
        clear A810
        replace H := ob_ H
        obtain ⟨t152, A820, H⟩ := H
        replace H : (sha_state_block.l2 k3 l0 x4_2 ((((((x16_3 + (Go.bits .xor .u32 (Go.bits .xor .u32 t145 t146) t147)) + (Go.bits .xor .u32 (Go.bits .and .u32 x13_3 x14_3) (Go.bits .and .u32 (Go.bits .xor .u32 4294967295 x13_3) x15_3))) + (rd keysL x130_3)) + (rd x4_2 x130_3)) + ((Go.bits .xor .u32 (Go.bits .xor .u32 t150 t151) t152) + (Go.bits .xor .u32 (Go.bits .xor .u32 (Go.bits .and .u32 x9_3 x10_3) (Go.bits .and .u32 x9_3 x11_3)) (Go.bits .and .u32 x10_3 x11_3)))) % 4294967296) x9_3 x10_3 x11_3 ((x12_3 + ((((x16_3 + (Go.bits .xor .u32 (Go.bits .xor .u32 t145 t146) t147)) + (Go.bits .xor .u32 (Go.bits .and .u32 x13_3 x14_3) (Go.bits .and .u32 (Go.bits .xor .u32 4294967295 x13_3) x15_3))) + (rd keysL x130_3)) + (rd x4_2 x130_3))) % 4294967296) x13_3 x14_3 x15_3 (wrap64 (x130_3 + 1))) = some r := H
        have A82 := Aside0.mk A820
        clear A820
        have H' := Aside0.mk H
        clear H
        try go_wp2
        have n0_ := Aside0.mk (Kd.R_drew HO_0.out)
        have n1_ := Aside0.mk (Kd.R_drew HO_4.out)
        have n2_ := Aside0.mk (Kept.drew HK.out)
        have n3_ := Aside0.mk (below_drew1 HB.out)
        clear HO_0
        clear HO_4
        clear HK
        clear HB
        have HO_0 := n0_
        have HO_4 := n1_
        have HK := n2_
        have HB := n3_
        clear n0_ n1_ n2_ n3_
        have qa148 : ((x130_3 : Int) < (64 : Int)) = True := eq_true (by have e_ : keysL.length = 64 := od_ (by assumption); have h_ : (x130_3 : Int) < ((keysL.length : Int) : Int) := od_ (by assumption); omega)
        have p148 : 0 ≤ (x130_3 : Int) := od_ (by assumption)
        have q148 : x130_3 < (keysL.length : Int) := od_ (by assumption)
        obtain ⟨ad148, e148, hx148_0⟩ := Kd.at_int (Kd.C_kept_now HRG.out HK.out) x130_3 p148 q148
        have hw148_0 := hx148_0
        obtain rfl : (⟨0, 0, none⟩ : Addr) = ad148 := (by injection e148)
        (first | simp only [add_plain] at hx148_0 | simp only [add_at] at hx148_0 | simp only [Addr.add, Nat.zero_add] at hx148_0 | skip)
        replace p148 := eq_true p148
        replace q148 := eq_true q148
        obtain ⟨Ao84, co84, eo84⟩ := Kd.R_slice HO_4.out
        (first | subst eo84 | (injection eo84 with f1_ f2_ f3_; have f4_ := f1_.symm; have f5_ := f3_.symm; clear f1_ f2_ f3_; subst f4_; subst f5_))
        have qa149 : ((x130_3 : Int) < (64 : Int)) = True := eq_true (by have e_ : x4_2.length = 64 := od_ (by assumption); have h_ : (x130_3 : Int) < ((x4_2.length : Int) : Int) := od_ (by assumption); omega)
        have p149 : 0 ≤ (x130_3 : Int) := od_ (by assumption)
        have q149 : x130_3 < (x4_2.length : Int) := od_ (by assumption)
        obtain ⟨ad149, e149, hx149_0⟩ := Kd.at_int (Kd.R_reads' HO_4.out).2.2 x130_3 p149 q149
        cases e149
        replace p149 := eq_true p149
        replace q149 := eq_true q149
        refine start_ (n := 28) (S := fun w' => w'.cell? ⟨0, (x130_3).toNat, none⟩ = some (.int .u32 (rd keysL x130_3)) ∧ w'.cell? (ad149.add (x130_3).toNat) = some (.int .u32 (rd x4_2 x130_3))) (ds := []) #[false, false, false, false, false, false, false, false, false, false, false, false, false, false, false, false, false, false, false, false, false, false, false, false, false, false, false, false] (by kernel_rfl) rfl rfl ⟨(by have h_ := Kd.foot_int (HRG.out _ (by repeat (first | exact HK.out | apply Kept.alloc | apply Kept.drewN | apply Kept.drew))) x130_3 (of_eq_true p148) (of_eq_true q148); (first | simp only [add_plain] at h_ | skip); exact h_), hx149_0⟩ (fun hHeld => ?_); refine with_tabW sha_state_block.tab15 sha_state_block.bits15 (fun HT_ HW_ => ?_)
        generalize wr.drew = w83 at HO_0 HO_4 HK HB hx148_0 hx149_0 hHeld ⊢
        refine runs_ [(0, some 133), (1, some 134), (3, some 136), (6, some 139), (10, some 143), (11, some 144), (12, some 145), (13, some 146), (14, some 147), (15, some 148), (16, some 149), (17, some 150), (19, some 152), (20, some 153), (23, some 156), (24, some 157)] ?_
        iterate 16 (refine pureL_ (v := ?_) (a' := ?_) rfl rfl (any_of HT_.out (by kernel_rfl)) (Or.inl ⟨by rfl, ?_⟩) ?_ ?_ (fun _ _ _ h => h); rotate_left; (intro w'; go_simp; with_reducible rfl); rotate_left; (simp only [pr_]; rfl))
        refine runsE_ ?_
        refine runs_ [(21, some 154), (25, some 158)] ?_
        iterate 2 (refine takeL_ (v := ?_) (a' := ?_) rfl rfl (take_ofW HT_.out HW_.out (by kernel_rfl)) (Or.inl ⟨by rfl, ?_⟩) hHeld ?_ ?_ (fun _ _ _ h => h); rotate_left; (rintro w' ⟨s0, s1⟩; go_simp; with_reducible rfl); rotate_left; (simp only [pr_]; rfl))
        refine runsE_ ?_
        refine one_ (i := 2) (N := some 135) #[true, true, true, true, false, false, true, false, false, false, true, true, true, true, true, true, true, true, false, true, true, true, false, true, true, true, false, false] rfl rfl (one_of HT_.out (by kernel_rfl)) (by decide) (fun K hK => ?_)
        refine goes_ Tryd.func95 (by kernel_rfl) rfl #[.int .u32 x13_3, .int .i64 (-6)] (by rfl) rfl rfl (by (try simp only [gm_]); first | done | rfl | (simp only [gl_]; rfl)) ?_
        with_reducible refine (bits_RotateLeft32.calls x13_3 (-6) t145 _ A72.out).mono ?_
        rintro e w' ⟨rfl, ⟨nd, rfl⟩⟩
        refine ⟨_, rfl, ?_⟩
        refine hK.out _ _ ⟨(by have h_ := Kd.foot_int (HRG.out _ (by repeat (first | exact HK.out | apply Kept.alloc | apply Kept.drewN | apply Kept.drew))) x130_3 (of_eq_true p148) (of_eq_true q148); (first | simp only [add_plain] at h_ | skip); exact h_), hHeld.2⟩ (fun hHeld => ?_)
        clear hK K
        refine norm_ (a' := ?_) ?_ ?_
        rotate_left
        ·show Act.put _ (some 135) _ = _
         simp only [pr_]
         rfl
        refine one_ (i := 4) (N := some 137) #[true, true, true, true, true, false, true, false, false, false, true, true, true, true, true, true, true, true, false, true, true, true, false, true, true, true, false, false] rfl rfl (one_of HT_.out (by kernel_rfl)) (by decide) (fun K hK => ?_)
        refine goes_ Tryd.func95 (by kernel_rfl) rfl #[.int .u32 x13_3, .int .i64 (-11)] (by rfl) rfl rfl (by (try simp only [gm_]); first | done | rfl | (simp only [gl_]; rfl)) ?_
        with_reducible refine (bits_RotateLeft32.calls x13_3 (-11) t146 _ A73.out).mono ?_
        rintro e w' ⟨rfl, ⟨nd, rfl⟩⟩
        refine ⟨_, rfl, ?_⟩
        refine hK.out _ _ ⟨(by have h_ := Kd.foot_int (HRG.out _ (by repeat (first | exact HK.out | apply Kept.alloc | apply Kept.drewN | apply Kept.drew))) x130_3 (of_eq_true p148) (of_eq_true q148); (first | simp only [add_plain] at h_ | skip); exact h_), hHeld.2⟩ (fun hHeld => ?_)
        clear hK K
        refine norm_ (a' := ?_) ?_ ?_
        rotate_left
        ·show Act.put _ (some 137) _ = _
         simp only [pr_]
         rfl
        refine pure_ (i := 5) (N := some 138) (v := ?_) (a' := ?_) #[true, true, true, true, true, true, true, false, false, false, true, true, true, true, true, true, true, true, false, true, true, true, false, true, true, true, false, false] rfl rfl (any_of HT_.out (by kernel_rfl)) (fun _ _ _ h => h) (Or.inl ⟨by rfl, ?_⟩) ?_ ?_
        rotate_left
        ·intro w'
         go_simp
         with_reducible rfl
        rotate_left
        ·simp only [pr_]
         rfl
        refine one_ (i := 7) (N := some 140) #[true, true, true, true, true, true, true, true, false, false, true, true, true, true, true, true, true, true, false, true, true, true, false, true, true, true, false, false] rfl rfl (one_of HT_.out (by kernel_rfl)) (by decide) (fun K hK => ?_)
        refine goes_ Tryd.func95 (by kernel_rfl) rfl #[.int .u32 x13_3, .int .i64 (-25)] (by rfl) rfl rfl (by (try simp only [gm_]); first | done | rfl | (simp only [gl_]; rfl)) ?_
        with_reducible refine (bits_RotateLeft32.calls x13_3 (-25) t147 _ A74.out).mono ?_
        rintro e w' ⟨rfl, ⟨nd, rfl⟩⟩
        refine ⟨_, rfl, ?_⟩
        refine hK.out _ _ ⟨(by have h_ := Kd.foot_int (HRG.out _ (by repeat (first | exact HK.out | apply Kept.alloc | apply Kept.drewN | apply Kept.drew))) x130_3 (of_eq_true p148) (of_eq_true q148); (first | simp only [add_plain] at h_ | skip); exact h_), hHeld.2⟩ (fun hHeld => ?_)
        clear hK K
        refine norm_ (a' := ?_) ?_ ?_
        rotate_left
        ·show Act.put _ (some 140) _ = _
         simp only [pr_]
         rfl
        refine runs_ [(8, some 141), (9, some 142), (18, some 151), (22, some 155), (26, some 159), (27, some 18)] ?_
        iterate 6 (refine pureL_ (v := ?_) (a' := ?_) rfl rfl (any_of HT_.out (by kernel_rfl)) (Or.inl ⟨by rfl, ?_⟩) ?_ ?_ (fun _ _ _ h => h); rotate_left; (intro w'; go_simp; with_reducible rfl); rotate_left; (simp only [pr_]; rfl))
        refine runsE_ ?_
        refine done_ (done_of HT_.out (by kernel_rfl)) ?_
        try go_wp2_with (first | ((with_reducible refine gate_callee (f := 95) rfl ?_); refine goesL_ (some 161) rfl rfl Tryd.func95 (by kernel_rfl) rfl #[.int .u32 x9_3, .int .i64 (-2)] rfl (by (try simp only [gm_]); first | done | rfl | (simp only [gl_]; rfl)) ?_; (with_reducible refine (bits_RotateLeft32.calls x9_3 (-2) t150 _ A80.out).mono ?_); rintro e w' ⟨rfl, ⟨nd, rfl⟩⟩; refine ⟨_, rfl, ?_⟩) | ((with_reducible refine gate_callee (f := 95) rfl ?_); refine goesL_ (some 163) rfl rfl Tryd.func95 (by kernel_rfl) rfl #[.int .u32 x9_3, .int .i64 (-13)] rfl (by (try simp only [gm_]); first | done | rfl | (simp only [gl_]; rfl)) ?_; (with_reducible refine (bits_RotateLeft32.calls x9_3 (-13) t151 _ A81.out).mono ?_); rintro e w' ⟨rfl, ⟨nd, rfl⟩⟩; refine ⟨_, rfl, ?_⟩) | ((with_reducible refine gate_callee (f := 95) rfl ?_); refine goesL_ (some 166) rfl rfl Tryd.func95 (by kernel_rfl) rfl #[.int .u32 x9_3, .int .i64 (-22)] rfl (by (try simp only [gm_]); first | done | rfl | (simp only [gl_]; rfl)) ?_; (with_reducible refine (bits_RotateLeft32.calls x9_3 (-22) t152 _ A82.out).mono ?_); rintro e w' ⟨rfl, ⟨nd, rfl⟩⟩; refine ⟨_, rfl, ?_⟩))
        go_roundg k3
        case measure => have := HK1.out; have := HK2.out; have := HK3.out; omega
        case rel => exact ⟨((((((x16_3 + (Go.bits .xor .u32 (Go.bits .xor .u32 t145 t146) t147)) + (Go.bits .xor .u32 (Go.bits .and .u32 x13_3 x14_3) (Go.bits .and .u32 (Go.bits .xor .u32 4294967295 x13_3) x15_3))) + (rd keysL x130_3)) + (rd x4_2 x130_3)) + ((Go.bits .xor .u32 (Go.bits .xor .u32 t150 t151) t152) + (Go.bits .xor .u32 (Go.bits .xor .u32 (Go.bits .and .u32 x9_3 x10_3) (Go.bits .and .u32 x9_3 x11_3)) (Go.bits .and .u32 x10_3 x11_3)))) % 4294967296), (x9_3), (x10_3), (x11_3), ((x12_3 + ((((x16_3 + (Go.bits .xor .u32 (Go.bits .xor .u32 t145 t146) t147)) + (Go.bits .xor .u32 (Go.bits .and .u32 x13_3 x14_3) (Go.bits .and .u32 (Go.bits .xor .u32 4294967295 x13_3) x15_3))) + (rd keysL x130_3)) + (rd x4_2 x130_3))) % 4294967296), (x13_3), (x14_3), (x15_3), (wrap64 (x130_3 + 1)), (by first | rfl | (simp; done) | (simp [*]; done) | (refine congrArg (Value.int _) ?_; first | omega | (unfold wrap64; omega))), (by first | rfl | (simp; done) | (simp [*]; done) | (refine congrArg (Value.int _) ?_; first | omega | (unfold wrap64; omega))), (by first | rfl | (simp; done) | (simp [*]; done) | (refine congrArg (Value.int _) ?_; first | omega | (unfold wrap64; omega))), (by first | rfl | (simp; done) | (simp [*]; done) | (refine congrArg (Value.int _) ?_; first | omega | (unfold wrap64; omega))), (by first | rfl | (simp; done) | (simp [*]; done) | (refine congrArg (Value.int _) ?_; first | omega | (unfold wrap64; omega))), (by first | rfl | (simp; done) | (simp [*]; done) | (refine congrArg (Value.int _) ?_; first | omega | (unfold wrap64; omega))), (by first | rfl | (simp; done) | (simp [*]; done) | (refine congrArg (Value.int _) ?_; first | omega | (unfold wrap64; omega))), (by first | rfl | (simp; done) | (simp [*]; done) | (refine congrArg (Value.int _) ?_; first | omega | (unfold wrap64; omega))), (by first | rfl | (simp; done) | (simp [*]; done) | (refine congrArg (Value.int _) ?_; first | omega | (unfold wrap64; omega))), H', ⟨by have := HK1.out; have := HK2.out; have := HK3.out; omega⟩, ⟨by (with_reducible repeat (first | apply Kd.R_alloc | apply Kd.R_drewN | apply Kd.R_drew)); exact HO_0.out⟩, ⟨by (with_reducible repeat (first | apply Kd.R_alloc | apply Kd.R_drewN | apply Kd.R_drew)); exact HO_4.out⟩, ⟨by repeat (first | (with_reducible first | exact HK.out | apply Kept.alloc | apply Kept.drewN | apply Kept.drew) | exact HK.out)⟩, ⟨by repeat (first | (with_reducible first | exact HB.out | apply lA_ | apply lN_ | apply lD_) | exact HB.out)⟩⟩
       rw [if_neg c71] at H
       have c71b0 : decide (x130_3 < 64) = false := decide_eq_false c71
       clear c71
       have H' := Aside0.mk H
       clear H
       go_wp2
       go_loopg [202] k3 (fun kq v202 w' => ∃ (x0_4 : List Int) (x202_4 : Int), v202 = .int .i64 x202_4 ∧ Aside0 (sha_state_block.l3 kq x0_4 x9_3 x10_3 x11_3 x12_3 x13_3 x14_3 x15_3 x16_3 x202_4 = some r) ∧ Aside0 (kq ≤ k3) ∧ Aside0 (Kd.R (Kd.int .u32) 106 w' w0.heap.size (fun k_ => (P0_ k_ ∨ w.heap.size ≤ k_)) (.slice (some ⟨go55, 0, none⟩) l0.length co55) x0_4) ∧ Aside0 (Kept w w' (fun k_ => P0_ k_)) ∧ Aside0 (Below w0.heap.size w0 w'))
       case atStart => exact ⟨(l0), (0), (by first | rfl | (simp; done) | (simp [*]; done) | (refine congrArg (Value.int _) ?_; first | omega | (unfold wrap64; omega))), H', ⟨Nat.le_refl _⟩, ⟨by (with_reducible repeat (first | apply Kd.R_alloc | apply Kd.R_drewN | apply Kd.R_drew)); exact HO_0.out⟩, ⟨by repeat (first | (with_reducible first | exact HK.out | apply Kept.alloc | apply Kept.drewN | apply Kept.drew) | exact HK.out)⟩, ⟨by repeat (first | (with_reducible first | exact HB.out | apply lA_ | apply lN_ | apply lD_) | exact HB.out)⟩⟩
       case round =>
        clear H'
        (try clear p1); (try clear q1); (try clear hx1); (try clear qi1); (try clear c2); (try clear p2); (try clear c3); (try clear c4); (try clear c5); (try clear p5); (try clear q5); (try clear hx5); (try clear qi5); (try clear hf5); (try clear c6); (try clear p6); (try clear q6); (try clear hx6); (try clear qi6); (try clear hf6); (try clear c7); (try clear c9); (try clear p13); (try clear q13); (try clear hx13); (try clear qi13); (try clear p14); (try clear q14); (try clear hx14); (try clear qi14); (try clear c28); (try clear c28b0); (try clear c29); (try clear c31); (try clear c32); (try clear c34); (try clear c35); (try clear c37); (try clear c38); (try clear c40); (try clear c41); (try clear c46); (try clear c47); (try clear c53); (try clear c53b0); (try clear c53b1); (try clear c54); (try clear c54b0); (try clear c54b1); (try clear p55); (try clear q55); (try clear hx55); (try clear qi55); (try clear hf55); (try clear p56); (try clear q56); (try clear hx56); (try clear qi56); (try clear hf56); (try clear c57); (try clear c57b0); (try clear c57b1); (try clear p58); (try clear q58); (try clear hx58); (try clear qi58); (try clear hf58); (try clear c59); (try clear c59b0); (try clear c59b1); (try clear p60); (try clear q60); (try clear hx60); (try clear qi60); (try clear hf60); (try clear c61); (try clear c61b0); (try clear c61b1); (try clear p62); (try clear q62); (try clear hx62); (try clear qi62); (try clear hf62); (try clear c63); (try clear c63b0); (try clear c63b1); (try clear p64); (try clear q64); (try clear hx64); (try clear qi64); (try clear hf64); (try clear c65); (try clear c65b0); (try clear c65b1); (try clear p66); (try clear q66); (try clear hx66); (try clear qi66); (try clear hf66); (try clear c67); (try clear c67b0); (try clear c67b1); (try clear p68); (try clear q68); (try clear hx68); (try clear qi68); (try clear hf68); (try clear c69); (try clear c69b0); (try clear c69b1); (try clear c71); (try clear c71b0); (try clear c75); (try clear c75b0); (try clear c75b1); (try clear c76); (try clear c76b0); (try clear c77); (try clear c77b0); (try clear c78); (try clear c78b0); (try clear c78b1); (try clear c79); (try clear c79b0); (try clear hx137_0); (try clear hx138_0); (try clear hx139_0); (try clear hx140_0); (try clear hx141_0); (try clear hx142_0); (try clear hx143_0); (try clear hx144_0); (try clear hx148_0); (try clear hx149_0); (try clear hx55_0); (try clear hx56_0); (try clear hx58_0); (try clear hx60_0); (try clear hx62_0); (try clear hx64_0); (try clear hx66_0); (try clear hx68_0); (try clear p1); (try clear p13); (try clear p137); (try clear p138); (try clear p139); (try clear p14); (try clear p140); (try clear p141); (try clear p142); (try clear p143); (try clear p144); (try clear p148); (try clear p149); (try clear p2); (try clear p5); (try clear p55); (try clear p56); (try clear p58); (try clear p6); (try clear p60); (try clear p62); (try clear p64); (try clear p66); (try clear p68); (try clear q1); (try clear q13); (try clear q137); (try clear q138); (try clear q139); (try clear q14); (try clear q140); (try clear q141); (try clear q142); (try clear q143); (try clear q144); (try clear q148); (try clear q149); (try clear q5); (try clear q55); (try clear q56); (try clear q58); (try clear q6); (try clear q60); (try clear q62); (try clear q64); (try clear q66); (try clear q68)
        obtain ⟨x0_4, x202_4, rfl, HA, HK4, HO_0, HK, HB⟩ := hrel
        have hl0_4 := (Kd.R_reads' HO_0.out).1
        rw [hl0_4] at HO_0
        (try simp only [hl0_4])
        cases gk with
        | zero => exact absurd HA.out (by simp [sha_state_block.l3])
        | succ k4 =>
         have H := HA.out
         clear HA
         simp only [sha_state_block.l3] at H
         by_cases c85 : x202_4 < 8
         ·rw [if_pos c85] at H
          have c85b0 : decide (x202_4 < 8) = true := decide_eq_true c85
          (try (have c85b7 := c85b0; simp only [hl0_4] at c85b7))
          clear c85
          by_cases c86 : 0 ≤ x202_4
          rotate_left
          ·rw [if_neg c86] at H
           exact absurd H (by simp)
          rw [if_pos c86] at H
          have c86b0 : decide (0 ≤ x202_4) = true := decide_eq_true c86
          (try (have c86b7 := c86b0; simp only [hl0_4] at c86b7))
          clear c86
          by_cases c87 : x0_4.length = 8
          rotate_left
          ·rw [if_neg c87] at H
           exact absurd H (by simp)
          rw [if_pos c87] at H
          have c87b0 := eq_true c87
          have c87b1 : decide (x0_4.length = 8) = true := decide_eq_true c87
          clear c87
          by_cases c88 : 0 < (x0_4.length : Int)
          rotate_left
          ·rw [if_neg c88] at H
           exact absurd H (by simp)
          rw [if_pos c88] at H
          have c88b0 : decide (0 < (x0_4.length : Int)) = true := decide_eq_true c88
          have c88b1 : decide (0 < x0_4.length) = true := decide_eq_true (by omega)
          (try (have c88b7 := c88b0; simp only [hl0_4] at c88b7))
          (try (have c88b8 := c88b1; simp only [hl0_4] at c88b8))
          clear c88
          by_cases c90 : x202_4 < (x0_4.length : Int)
          rotate_left
          ·rw [if_neg c90] at H
           exact absurd H (by simp)
          rw [if_pos c90] at H
          have c90b0 : decide (x202_4 < (x0_4.length : Int)) = true := decide_eq_true c90
          (try (have c90b7 := c90b0; simp only [hl0_4] at c90b7))
          clear c90
          obtain ⟨y154, hy154⟩ : ∃ y_ : List Int, y_ = (x0_4.set (x202_4 : Int).toNat (((rd x0_4 x202_4) + (rd [x9_3, x10_3, x11_3, x12_3, x13_3, x14_3, x15_3, x16_3] x202_4)) % 4294967296)) := ⟨_, rfl⟩
          replace H : (sha_state_block.l3 k4 y154 x9_3 x10_3 x11_3 x12_3 x13_3 x14_3 x15_3 x16_3 (wrap64 (x202_4 + 1))) = some r := by first | (rw [hy154]; with_reducible exact H) | (have H2_ := (Option.bind_some _ _).symm.trans H; rw [hy154]; with_reducible exact H2_) | (have H2_ := (Option.bind_some _ _).symm.trans H; with_reducible exact H2_) | with_reducible exact H | (rw [hy154]; exact H) | exact H
          have Ny154 := Aside0.mk hy154
          clear hy154
          have H' := Aside0.mk H
          clear H
          have p93 : 0 ≤ (x202_4 : Int) := od_ (by assumption)
          have q93 : (x202_4 : Int) < (8 : Int) := od_ (by assumption)
          try go_wp2_with (first | ((with_reducible refine gate_dst (N := 205) rfl ?_); (try (refine gate_guard (by rfl) ?_; dsimp only)); refine aidx_event (P := Tryd.prog) (k := .u32) (n := 8) rfl (N := 205) rfl 105 86 _ _ rfl [x9_3, x10_3, x11_3, x12_3, x13_3, x14_3, x15_3, x16_3] rfl x202_4 rfl Tryd.underlying105 rfl (by go_simp) (by go_simp) p93 q93 ?_))
          have n0_ := Aside0.mk (Kd.R_drew HO_0.out)
          have n1_ := Aside0.mk (Kept.drew HK.out)
          have n2_ := Aside0.mk (below_drew1 HB.out)
          clear HO_0
          clear HK
          clear HB
          have HO_0 := n0_
          have HK := n1_
          have HB := n2_
          clear n0_ n1_ n2_
          have qa89 : ((0 : Int) < (8 : Int)) = True := eq_true (by have e_ : x0_4.length = 8 := od_ (by assumption); have h_ : (0 : Int) < ((x0_4.length : Int) : Int) := od_ (by assumption); omega)
          have p89 : 0 ≤ (0 : Int) := (by omega)
          have q89 : (0 : Int) < ((x0_4.length : Int) : Int) := od_ (by assumption)
          have qi89 : (0 < x0_4.length) = True := eq_true (by omega)
          obtain ⟨hx89_0, hf89_0⟩ := Kd.R_celln 0 HO_0.out (0 : Int) p89 q89
          (try rw [show ((0 : Int)).toNat = 0 from rfl] at hx89_0)
          (try simp only [Nat.reduceMul, Nat.zero_mul, Nat.zero_add, Nat.reduceAdd] at hx89_0)
          (try rw [show ((0 : Int)).toNat = 0 from rfl] at hf89_0)
          (try simp only [Nat.reduceMul, Nat.zero_mul, Nat.zero_add, Nat.reduceAdd] at hf89_0)
          replace p89 := eq_true p89
          replace q89 := eq_true q89
          have qa153 : ((x202_4 : Int) < (8 : Int)) = True := eq_true (by have e_ : x0_4.length = 8 := od_ (by assumption); have h_ : (x202_4 : Int) < ((x0_4.length : Int) : Int) := od_ (by assumption); omega)
          have p153 : 0 ≤ (x202_4 : Int) := od_ (by assumption)
          have q153 : x202_4 < (x0_4.length : Int) := od_ (by assumption)
          obtain ⟨ad153, e153, hx153_0⟩ := Kd.at_int (Kd.R_reads' HO_0.out).2.2 x202_4 p153 q153
          obtain rfl : (⟨go55, 0, none⟩ : Addr) = ad153 := (by injection e153)
          (first | simp only [add_plain] at hx153_0 | simp only [add_at] at hx153_0 | simp only [Addr.add, Nat.zero_add] at hx153_0 | skip)
          replace p153 := eq_true p153
          replace q153 := eq_true q153
          have qa91 : ((0 : Int) < (8 : Int)) = True := eq_true (by have e_ : x0_4.length = 8 := od_ (by assumption); have h_ : (0 : Int) < ((x0_4.length : Int) : Int) := od_ (by assumption); omega)
          have p91 : 0 ≤ (0 : Int) := (by omega)
          have q91 : (0 : Int) < ((x0_4.length : Int) : Int) := od_ (by assumption)
          have qi91 : (0 < x0_4.length) = True := eq_true (by omega)
          obtain ⟨hx91_0, hf91_0⟩ := Kd.R_celln 0 HO_0.out (0 : Int) p91 q91
          (try rw [show ((0 : Int)).toNat = 0 from rfl] at hx91_0)
          (try simp only [Nat.reduceMul, Nat.zero_mul, Nat.zero_add, Nat.reduceAdd] at hx91_0)
          (try rw [show ((0 : Int)).toNat = 0 from rfl] at hf91_0)
          (try simp only [Nat.reduceMul, Nat.zero_mul, Nat.zero_add, Nat.reduceAdd] at hf91_0)
          replace p91 := eq_true p91
          replace q91 := eq_true q91
          have qa92 : ((x202_4 : Int) < (8 : Int)) = True := eq_true (by have e_ : x0_4.length = 8 := od_ (by assumption); have h_ : (x202_4 : Int) < ((x0_4.length : Int) : Int) := od_ (by assumption); omega)
          have p92 : 0 ≤ (x202_4 : Int) := od_ (by assumption)
          have q92 : (x202_4 : Int) < ((x0_4.length : Int) : Int) := od_ (by assumption)
          obtain ⟨hx92_0, hf92_0⟩ := Kd.R_celln 0 HO_0.out (x202_4 : Int) p92 q92
          replace p92 := eq_true p92
          replace q92 := eq_true q92
          have HP95 := Kd.R_putn HO_0.out (x202_4 : Int) (((rd x0_4 x202_4) + (rd [x9_3, x10_3, x11_3, x12_3, x13_3, x14_3, x15_3, x16_3] x202_4)) % 4294967296)
          rw [← Ny154.out] at HP95
          have HQ95 := Aside0.mk HP95
          clear HP95
          refine start_ (n := 10) (S := fun w' => w'.cell? ⟨go55, (x202_4).toNat, none⟩ = some (.int .u32 (rd x0_4 x202_4))) (ds := [9]) #[false, false, false, false, false, false, false, false, false, false] (by kernel_rfl) rfl rfl (hx153_0) (fun hHeld => ?_); refine with_tabW sha_state_block.tab22 sha_state_block.bits22 (fun HT_ HW_ => ?_)
          generalize wr.drew = w94 at HO_0 HK HB HQ95 hf89_0 hf91_0 hf92_0 hx153_0 hx89_0 hx91_0 hx92_0 hHeld ⊢
          refine runs_ [(0, some 206), (1, some 207), (2, some 208), (3, some 209), (5, some 211), (7, some 213)] ?_
          iterate 6 (refine pureL_ (v := ?_) (a' := ?_) rfl rfl (any_of HT_.out (by kernel_rfl)) (Or.inl ⟨by rfl, ?_⟩) ?_ ?_ (fun _ _ _ h => h); rotate_left; (intro w'; go_simp; with_reducible rfl); rotate_left; (simp only [pr_]; rfl))
          refine runsE_ ?_
          refine take_ (i := 4) (N := some 210) (v := ?_) (a' := ?_) #[true, true, true, true, true, true, false, true, false, false] rfl rfl (take_ofW HT_.out HW_.out (by kernel_rfl)) (fun _ _ _ h => h) (Or.inl ⟨by rfl, ?_⟩) hHeld ?_ ?_
          rotate_left
          ·intro w' s0
           go_simp
           with_reducible rfl
          rotate_left
          ·simp only [pr_]
           rfl
          refine runs_ [(6, some 212), (8, some 214)] ?_
          iterate 2 (refine pureL_ (v := ?_) (a' := ?_) rfl rfl (any_of HT_.out (by kernel_rfl)) (Or.inl ⟨by rfl, ?_⟩) ?_ ?_ (fun _ _ _ h => h); rotate_left; (intro w'; go_simp; with_reducible rfl); rotate_left; (simp only [pr_]; rfl))
          refine runsE_ ?_
          refine last_ (i := 9) (N := none) #[true, true, true, true, true, true, true, true, true, true] rfl rfl (one_of HT_.out (by kernel_rfl)) (by decide) (fun K hK => ?_)
          refine skip_set ⟨go55, (x202_4 : Int).toNat, none⟩ (.int .u32 (((rd x0_4 x202_4) + (rd [x9_3, x10_3, x11_3, x12_3, x13_3, x14_3, x15_3, x16_3] x202_4)) % 4294967296)) (by rfl) rfl ?_ ?_
          ·first | (go_simp; done) | (go_simp; rfl) | (go_simp; (try simp only [IntKind.wrap_u32, IntKind.wrap_u8]); refine congrArg (fun v_ => World.setCell _ _ (Value.int _ v_)) ?_; omega)
          refine hK.out _ _ ?_
          clear hK K
          refine done_ (done_of HT_.out (by kernel_rfl)) ?_
          try go_wp2
          (try simp only [← hl0_4])
          go_roundg k4
          case measure => have := HK1.out; have := HK2.out; have := HK3.out; have := HK4.out; omega
          case rel => exact ⟨(y154), (wrap64 (x202_4 + 1)), (by first | rfl | (simp; done) | (simp [*]; done) | (refine congrArg (Value.int _) ?_; first | omega | (unfold wrap64; omega))), H', ⟨by have := HK1.out; have := HK2.out; have := HK3.out; have := HK4.out; omega⟩, ⟨by (try simp only [hl0_4]); (with_reducible repeat (first | apply Kd.R_alloc | apply Kd.R_drewN | apply Kd.R_drew)); exact HQ95.out⟩, ⟨by repeat (first | (with_reducible first | exact HK.out | apply Kept.alloc | apply Kept.drewN | apply Kept.drew | refine Kept.setCell ?_ HMgo55.out _) | exact HK.out)⟩, ⟨by repeat (first | (with_reducible first | exact HB.out | apply lA_ | apply lN_ | apply lD_ | refine lS_ ?_ GB55.out) | exact HB.out)⟩⟩
         rw [if_neg c85] at H
         have c85b0 : decide (x202_4 < 8) = false := decide_eq_false c85
         (try (have c85b7 := c85b0; simp only [hl0_4] at c85b7))
         clear c85
         obtain rfl := Option.some.inj H
         go_wp2
         first | go_end0 | ((try simp only [Exit.inBlock, Exit.then]); refine bodyPost_ret (results_none rfl _ _ _) rfl ?_)
         exact ⟨by first | rfl | (simp [errW_none, errW_some] <;> rfl) | (simp [*, errW_none, errW_some] <;> rfl), (by first | exact (by (with_reducible repeat (first | apply Kd.R_alloc | apply Kd.R_drewN | apply Kd.R_drew)); exact HO_0.out) | (simp only [hl0_4]; exact (by (with_reducible repeat (first | apply Kd.R_alloc | apply Kd.R_drewN | apply Kd.R_drew)); exact HO_0.out))), by repeat (first | (with_reducible first | exact HB.out | apply lA_ | apply lN_ | apply lD_) | exact HB.out), by repeat (first | (with_reducible first | exact HK.out | apply Kept.alloc | apply Kept.drewN | apply Kept.drew) | exact HK.out)⟩

end Go.Proofs.YtmedpnclkbkiiaaDoor.PP
