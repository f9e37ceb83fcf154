-- WRITTEN BY a program of this work (wip/ownprint.py), for this seat
import Derived.Test.YtdodghifojkclaaGreatDoorPPx0
import Derived.Test.YtdodghifojkclaaGreatDoorPPx1
namespace Go.Proofs.YtdodghifojkclaaGreatDoor.PP
open Go.RowKit Go.Proofs.YtdodghifojkclaaGreatDoorW.PrintWords Go.Proofs.YtdodghifojkclaaGreatDoorW.PrintLast Go.Proofs.YtdodghifojkclaaGreatDoorW.PrintMore
attribute [local go_sem] max2_int min2_int max_two min_two max_three min_three max_four min_four   -- for this text's walks alone
set_option linter.unusedVariables false
set_option linter.unusedSimpArgs false

/-! ### Ja = palaverref02_Sum: function 62 -/
mutual
def Ja.l0 : Nat → List Int → List Int → ByteArray → Int → Option (ByteArray)
 | 0, _, _, _, _ => none
 | k + 1, x3, x4, x5, x6 => if x6 < (x5.size : Int) then (Ja.l1 k x3 x4 x5 x6 (List.replicate 64 0) 0) else (Ja.l4 k x3 ([] : List Int) 0)
def Ja.l1 : Nat → List Int → List Int → ByteArray → Int → List Int → Int → Option (ByteArray)
 | 0, _, _, _, _, _, _ => none
 | k + 1, x3, x4, x5, x6, x7, x8 => if x8 < 64 then (if x8 < 16 then (if 0 ≤ (wrap64 (x6 + (wrap64 (4 * x8)))) then (if (wrap64 (x6 + (wrap64 (4 * x8)))) < (x5.size : Int) then (if 0 ≤ (wrap64 ((wrap64 (x6 + (wrap64 (4 * x8)))) + 1)) then (if (wrap64 ((wrap64 (x6 + (wrap64 (4 * x8)))) + 1)) < (x5.size : Int) then (if 0 ≤ (wrap64 ((wrap64 (x6 + (wrap64 (4 * x8)))) + 2)) then (if (wrap64 ((wrap64 (x6 + (wrap64 (4 * x8)))) + 2)) < (x5.size : Int) then (if 0 ≤ (wrap64 ((wrap64 (x6 + (wrap64 (4 * x8)))) + 3)) then (if (wrap64 ((wrap64 (x6 + (wrap64 (4 * x8)))) + 3)) < (x5.size : Int) then (if x7.length = 64 then (if 0 ≤ x8 then (if x8 < (x7.length : Int) then (Ja.l1 k x3 x4 x5 x6 (x7.set (x8 : Int).toNat (((((((bt x5 (wrap64 (x6 + (wrap64 (4 * x8))))) % 4294967296) * 16777216) + (((bt x5 (wrap64 ((wrap64 (x6 + (wrap64 (4 * x8)))) + 1))) % 4294967296) * 65536)) + (((bt x5 (wrap64 ((wrap64 (x6 + (wrap64 (4 * x8)))) + 2))) % 4294967296) * 256)) + (bt x5 (wrap64 ((wrap64 (x6 + (wrap64 (4 * x8)))) + 3)))) % 4294967296)) (wrap64 (x8 + 1))) else (none)) else (none)) else (none)) else (none)) else (none)) else (none)) else (none)) else (none)) else (none)) else (none)) else (none)) else (if x7.length = 64 then (if 0 ≤ (wrap64 (x8 - 15)) then (if (wrap64 (x8 - 15)) < (x7.length : Int) then ((Jv.f (rd x7 (wrap64 (x8 - 15))) 7).bind fun t210 => ((Jv.f (rd x7 (wrap64 (x8 - 15))) 18).bind fun t212 => (if 0 ≤ (wrap64 (x8 - 2)) then (if (wrap64 (x8 - 2)) < (x7.length : Int) then ((Jv.f (rd x7 (wrap64 (x8 - 2))) 17).bind fun t215 => ((Jv.f (rd x7 (wrap64 (x8 - 2))) 19).bind fun t217 => (if 0 ≤ (wrap64 (x8 - 16)) then (if (wrap64 (x8 - 16)) < (x7.length : Int) then (if 0 ≤ (wrap64 (x8 - 7)) then (if (wrap64 (x8 - 7)) < (x7.length : Int) then (if 0 ≤ x8 then (if x8 < (x7.length : Int) then (Ja.l1 k x3 x4 x5 x6 (x7.set (x8 : Int).toNat (((((rd x7 (wrap64 (x8 - 16))) + (Go.bits .xor .u32 (Go.bits .xor .u32 t210 t212) ((rd x7 (wrap64 (x8 - 15))) / 8))) + (rd x7 (wrap64 (x8 - 7)))) + (Go.bits .xor .u32 (Go.bits .xor .u32 t215 t217) ((rd x7 (wrap64 (x8 - 2))) / 1024))) % 4294967296)) (wrap64 (x8 + 1))) else (none)) else (none)) else (none)) else (none)) else (none)) else (none)))) else (none)) else (none)))) else (none)) else (none)) else (none))) else (if x3.length = 8 then (if 0 < (x3.length : Int) then (if 1 < (x3.length : Int) then (if 2 < (x3.length : Int) then (if 3 < (x3.length : Int) then (if 4 < (x3.length : Int) then (if 5 < (x3.length : Int) then (if 6 < (x3.length : Int) then (if 7 < (x3.length : Int) then (Ja.l2 k x3 x4 x5 x6 x7 (rd x3 0) (rd x3 1) (rd x3 2) (rd x3 3) (rd x3 4) (rd x3 5) (rd x3 6) (rd x3 7) 0) else (none)) else (none)) else (none)) else (none)) else (none)) else (none)) else (none)) else (none)) else (none))
def Ja.l2 : Nat → List Int → List Int → ByteArray → Int → List Int → Int → Int → Int → Int → Int → Int → Int → Int → Int → Option (ByteArray)
 | 0, _, _, _, _, _, _, _, _, _, _, _, _, _, _ => none
 | k + 1, x3, x4, x5, x6, x7, x11, x12, x13, x14, x15, x16, x17, x18, x19 => if x19 < 64 then ((Jv.f x15 6).bind fun t230 => ((Jv.f x15 11).bind fun t231 => ((Jv.f x15 25).bind fun t232 => (if x4.length = 64 then (if 0 ≤ x19 then (if x19 < (x4.length : Int) then (if x7.length = 64 then (if x19 < (x7.length : Int) then ((Jv.f x11 2).bind fun t235 => ((Jv.f x11 13).bind fun t236 => ((Jv.f x11 22).bind fun t237 => (Ja.l2 k x3 x4 x5 x6 x7 ((((((x18 + (Go.bits .xor .u32 (Go.bits .xor .u32 t230 t231) t232)) + (Go.bits .xor .u32 (Go.bits .and .u32 x15 x16) (Go.bits .and .u32 (Go.bits .xor .u32 4294967295 x15) x17))) + (rd x4 x19)) + (rd x7 x19)) + ((Go.bits .xor .u32 (Go.bits .xor .u32 t235 t236) t237) + (Go.bits .xor .u32 (Go.bits .xor .u32 (Go.bits .and .u32 x11 x12) (Go.bits .and .u32 x11 x13)) (Go.bits .and .u32 x12 x13)))) % 4294967296) x11 x12 x13 ((x14 + ((((x18 + (Go.bits .xor .u32 (Go.bits .xor .u32 t230 t231) t232)) + (Go.bits .xor .u32 (Go.bits .and .u32 x15 x16) (Go.bits .and .u32 (Go.bits .xor .u32 4294967295 x15) x17))) + (rd x4 x19)) + (rd x7 x19))) % 4294967296) x15 x16 x17 (wrap64 (x19 + 1)))))) else (none)) else (none)) else (none)) else (none)) else (none))))) else ((some (List.replicate 8 0 : List Int)).bind fun y238 => (if y238.length = 8 then (if 0 < (y238.length : Int) then (Ja.l3 k x3 x4 x5 x6 ([x11, x12, x13, x14, x15, x16, x17, x18]) 0) else (none)) else (none)))
def Ja.l3 : Nat → List Int → List Int → ByteArray → Int → List Int → Int → Option (ByteArray)
 | 0, _, _, _, _, _, _ => none
 | k + 1, x3, x4, x5, x6, x26, x27 => if x27 < 8 then (if x3.length = 8 then (if 0 ≤ x27 then (if x27 < (x3.length : Int) then (if x26.length = 8 then (if x27 < (x26.length : Int) then (Ja.l3 k (x3.set (x27 : Int).toNat (((rd x3 x27) + (rd x26 x27)) % 4294967296)) x4 x5 x6 x26 (wrap64 (x27 + 1))) else (none)) else (none)) else (none)) else (none)) else (none)) else (Ja.l0 k x3 x4 x5 (wrap64 (x6 + 64)))
def Ja.l4 : Nat → List Int → List Int → Int → Option (ByteArray)
 | 0, _, _, _ => none
 | k + 1, x3, x28, x29 => if x29 < 8 then (if x3.length = 8 then (if 0 ≤ x29 then (if x29 < (x3.length : Int) then ((some (([((rd x3 x29) / 16777216) % 256, ((rd x3 x29) / 65536) % 256, ((rd x3 x29) / 256) % 256, (rd x3 x29) % 256] : List Int) : List Int)).bind fun y249 => (if x28.length + y249.length < 140737488355328 then (Ja.l4 k x3 (x28 ++ y249) (wrap64 (x29 + 1))) else (none))) else (none)) else (none)) else (none)) else (some (strOfNums x28))
end
def Ja.f (k : Nat) (a0 : ByteArray) : Option (ByteArray) := (Ur.f).bind fun _ => ((some (List.replicate 8 0 : List Int)).bind fun y196 => (if y196.length = 8 then (if 0 < (y196.length : Int) then ((Uu.f).bind fun _ => ((some (List.replicate 64 0 : List Int)).bind fun y200 => (if y200.length = 64 then (if 0 < (y200.length : Int) then ((Jd.f k a0).bind fun t204 => (Ja.l0 k ([1779033703, 3144134277, 1013904242, 2773480762, 1359893119, 2600822924, 528734635, 1541459225]) ([1116352408, 1899447441, 3049323471, 3921009573, 961987163, 1508970993, 2453635748, 2870763221, 3624381080, 310598401, 607225278, 1426881987, 1925078388, 2162078206, 2614888103, 3248222580, 3835390401, 4022224774, 264347078, 604807628, 770255983, 1249150122, 1555081692, 1996064986, 2554220882, 2821834349, 2952996808, 3210313671, 3336571891, 3584528711, 113926993, 338241895, 666307205, 773529912, 1294757372, 1396182291, 1695183700, 1986661051, 2177026350, 2456956037, 2730485921, 2820302411, 3259730800, 3345764771, 3516065817, 3600352804, 4094571909, 275423344, 430227734, 506948616, 659060556, 883997877, 958139571, 1322822218, 1537002063, 1747873779, 1955562222, 2024104815, 2227730452, 2361852424, 2428436474, 2756734187, 3204031479, 3329325298]) t204 0)) else (none)) else (none)))) else (none)) else (none)))
def Ja.T12 : Bool × List (List Nat × List Nat) := (true, [([], []), ([], []), ([], []), ([], []), ([3], [3]), ([2, 4], [2, 4]), ([1, 5], [1, 5]), ([6], [6]), ([7], [7]), ([], []), ([], []), ([], []), ([11], [11]), ([10, 12], [10, 12]), ([13], [13]), ([9, 14], [9, 14]), ([15], [15]), ([16], [16]), ([8, 17], [8, 17]), ([], []), ([], []), ([], []), ([21], [21]), ([20, 22], [20, 22]), ([23], [23]), ([19, 24], [19, 24]), ([25], [25]), ([26], [26]), ([18, 27], [18, 27]), ([], []), ([], []), ([], []), ([31], [31]), ([30, 32], [30, 32]), ([33], [33]), ([29, 34], [29, 34]), ([35], [35]), ([28, 36], [28, 36]), ([0, 0, 1, 2, 3, 4, 5, 6, 7, 8, 9, 10, 11, 12, 13, 14, 15, 16, 17, 18, 19, 20, 21, 22, 23, 24, 25, 26, 27, 28, 29, 30, 31, 32, 33, 34, 35, 36, 37], [0]), ([38, 37, 0, 1, 2, 3, 4, 5, 6, 7, 8, 9, 10, 11, 12, 13, 14, 15, 16, 17, 18, 19, 20, 21, 22, 23, 24, 25, 26, 27, 28, 29, 30, 31, 32, 33, 34, 35, 36, 37], [37, 38])])
def Ja.B12 : List Nat := [0, 0, 0, 0, 8, 28, 62, 126, 254, 0, 0, 0, 2048, 7168, 15360, 32256, 65024, 130560, 262142, 0, 0, 0, 2097152, 7340032, 15728640, 33030144, 66584576, 133693440, 268435454, 0, 0, 0, 2147483648, 7516192768, 16106127360, 33822867456, 68182605824, 137438953470, 274877906943, 549755813887]
theorem Ja.tab12 : rtab .any (opsOf Tryz.f62 12) = Ja.T12 := by kernel_rfl
theorem Ja.bits12 : waitsOk Ja.T12.2 Ja.B12 = true := by kernel_rfl
def Ja.T13 : Bool × List (List Nat × List Nat) := (true, [([], []), ([0], [0]), ([1], [1]), ([2], [2]), ([3], [3]), ([], []), ([5], [5]), ([6], [6]), ([7], [7]), ([8, 4], [8]), ([4, 9], [4, 9]), ([], []), ([11], [11]), ([12], [12]), ([13], [13]), ([14], [14]), ([10, 15], [10, 15]), ([16, 9, 0, 1, 2, 3, 4, 5, 6, 7, 8, 9, 10, 11, 12, 13, 14, 15, 16], [16])])
def Ja.B13 : List Nat := [0, 1, 3, 7, 15, 0, 32, 96, 224, 511, 1023, 0, 2048, 6144, 14336, 30720, 65535, 131071]
theorem Ja.tab13 : rtab .any (opsOf Tryz.f62 13) = Ja.T13 := by kernel_rfl
theorem Ja.bits13 : waitsOk Ja.T13.2 Ja.B13 = true := by kernel_rfl
def Ja.T14 : Bool × List (List Nat × List Nat) := (true, [([], []), ([0], [0]), ([1], [1]), ([2], [2]), ([3], [3]), ([], []), ([5], [5]), ([6], [6]), ([7], [7]), ([8, 4], [8]), ([4, 9], [4, 9]), ([], []), ([11], [11]), ([12], [12]), ([13], [13]), ([14], [14]), ([10, 15], [10, 15]), ([16, 9, 0, 1, 2, 3, 4, 5, 6, 7, 8, 9, 10, 11, 12, 13, 14, 15, 16], [16])])
def Ja.B14 : List Nat := [0, 1, 3, 7, 15, 0, 32, 96, 224, 511, 1023, 0, 2048, 6144, 14336, 30720, 65535, 131071]
theorem Ja.tab14 : rtab .any (opsOf Tryz.f62 14) = Ja.T14 := by kernel_rfl
theorem Ja.bits14 : waitsOk Ja.T14.2 Ja.B14 = true := by kernel_rfl
def Ja.T15 : Bool × List (List Nat × List Nat) := (true, [([], []), ([], []), ([1], [1]), ([2], [2]), ([3], [3]), ([], []), ([4, 5], [4, 5]), ([], []), ([7], [7]), ([8], [8]), ([9], [9]), ([6, 10], [6, 10]), ([], []), ([11, 12], [11, 12]), ([0, 0, 1, 2, 3, 4, 5, 6, 7, 8, 9, 10, 11, 12, 13], [0]), ([14, 13, 0, 1, 2, 3, 4, 5, 6, 7, 8, 9, 10, 11, 12, 13], [13, 14])])
def Ja.B15 : List Nat := [0, 0, 2, 6, 14, 0, 62, 0, 128, 384, 896, 2046, 0, 8190, 16383, 32767]
theorem Ja.tab15 : rtab .any (opsOf Tryz.f62 15) = Ja.T15 := by kernel_rfl
theorem Ja.bits15 : waitsOk Ja.T15.2 Ja.B15 = true := by kernel_rfl
def Ja.T16 : Bool × List (List Nat × List Nat) := (true, [([], []), ([0], [0]), ([], []), ([2], [2]), ([], []), ([4], [4]), ([], []), ([6], [6]), ([], []), ([8], [8]), ([], []), ([10], [10]), ([], []), ([12], [12]), ([], []), ([14], [14]), ([1, 0, 1], [1]), ([3, 16, 0, 1, 2, 3, 16], [3]), ([5, 17, 0, 1, 2, 3, 4, 5, 16, 17], [5]), ([7, 18, 0, 1, 2, 3, 4, 5, 6, 7, 16, 17, 18], [7]), ([9, 19, 0, 1, 2, 3, 4, 5, 6, 7, 8, 9, 16, 17, 18, 19], [9]), ([11, 20, 0, 1, 2, 3, 4, 5, 6, 7, 8, 9, 10, 11, 16, 17, 18, 19, 20], [11]), ([13, 21, 0, 1, 2, 3, 4, 5, 6, 7, 8, 9, 10, 11, 12, 13, 16, 17, 18, 19, 20, 21], [13]), ([15, 22, 0, 1, 2, 3, 4, 5, 6, 7, 8, 9, 10, 11, 12, 13, 14, 15, 16, 17, 18, 19, 20, 21, 22], [15])])
def Ja.B16 : List Nat := [0, 1, 0, 4, 0, 16, 0, 64, 0, 256, 0, 1024, 0, 4096, 0, 16384, 3, 65551, 196671, 459007, 984063, 2035711, 4145151, 8388607]
theorem Ja.tab16 : rtab .any (opsOf Tryz.f62 16) = Ja.T16 := by kernel_rfl
theorem Ja.bits16 : waitsOk Ja.T16.2 Ja.B16 = true := by kernel_rfl
def Ja.T22 : Bool × List (List Nat × List Nat) := (true, [([], []), ([], []), ([0, 1], [0, 1]), ([], []), ([2, 3], [2, 3]), ([], []), ([5], [5]), ([6], [6]), ([4, 7], [4, 7]), ([], []), ([9], [9]), ([10], [10]), ([8, 11], [8, 11]), ([12, 0, 1, 2, 3, 4, 5, 6, 7, 8, 9, 10, 11, 12], [12])])
def Ja.B22 : List Nat := [0, 0, 3, 0, 15, 0, 32, 96, 255, 0, 512, 1536, 4095, 8191]
theorem Ja.tab22 : rtab .any (opsOf Tryz.f62 22) = Ja.T22 := by kernel_rfl
theorem Ja.bits22 : waitsOk Ja.T22.2 Ja.B22 = true := by kernel_rfl
def Ja.T38 : Bool × List (List Nat × List Nat) := (true, [([], []), ([], []), ([1], [1]), ([2], [2]), ([], []), ([4], [4]), ([5], [5]), ([3, 6], [3, 6]), ([0, 0, 1, 2, 3, 4, 5, 6, 7], [0]), ([8, 7, 0, 1, 2, 3, 4, 5, 6, 7], [7, 8])])
def Ja.B38 : List Nat := [0, 0, 2, 6, 0, 16, 48, 126, 255, 511]
theorem Ja.tab38 : rtab .any (opsOf Tryz.f62 38) = Ja.T38 := by kernel_rfl
theorem Ja.bits38 : waitsOk Ja.T38.2 Ja.B38 = true := by kernel_rfl
def Ja.T43 : Bool × List (List Nat × List Nat) := (true, [([], []), ([], []), ([1], [1]), ([2], [2]), ([3], [3]), ([4], [4]), ([], []), ([6], [6]), ([7], [7]), ([8], [8]), ([9], [9]), ([], []), ([11], [11]), ([12], [12]), ([13], [13]), ([14], [14]), ([], []), ([16], [16]), ([17], [17]), ([18], [18]), ([5, 10, 15, 19], [5, 10, 15, 19]), ([0, 20], [0, 20]), ([21, 21, 0, 1, 2, 3, 4, 5, 6, 7, 8, 9, 10, 11, 12, 13, 14, 15, 16, 17, 18, 19, 20, 21], [0, 21])])
def Ja.B43 : List Nat := [0, 0, 2, 6, 14, 30, 0, 64, 192, 448, 960, 0, 2048, 6144, 14336, 30720, 0, 65536, 196608, 458752, 1048574, 2097151, 4194303]
theorem Ja.tab43 : rtab .any (opsOf Tryz.f62 43) = Ja.T43 := by kernel_rfl
theorem Ja.bits43 : waitsOk Ja.T43.2 Ja.B43 = true := by kernel_rfl
set_option maxHeartbeats 64000000 in
set_option maxRecDepth 100000 in
theorem Ja.calls (k : Nat) (a0 : ByteArray) (r : ByteArray) (w : World) (h : Ja.f k a0 = some r) :
 Calls Tryz.prog 62 #[.string a0] w fun e w' => e = .returned (.string r) ∧ Below w.heap.size w w' := by
 have hu130 := Tryz.underlying130
 have hu132 := Tryz.underlying132
 have HB := Aside0.mk (Below.refl w.heap.size w)
 have H : ((Ur.f).bind fun _ => ((some (List.replicate 8 0 : List Int)).bind fun y196 => (if y196.length = 8 then (if 0 < (y196.length : Int) then ((Uu.f).bind fun _ => ((some (List.replicate 64 0 : List Int)).bind fun y200 => (if y200.length = 64 then (if 0 < (y200.length : Int) then ((Jd.f k a0).bind fun t204 => (Ja.l0 k ([1779033703, 3144134277, 1013904242, 2773480762, 1359893119, 2600822924, 528734635, 1541459225]) ([1116352408, 1899447441, 3049323471, 3921009573, 961987163, 1508970993, 2453635748, 2870763221, 3624381080, 310598401, 607225278, 1426881987, 1925078388, 2162078206, 2614888103, 3248222580, 3835390401, 4022224774, 264347078, 604807628, 770255983, 1249150122, 1555081692, 1996064986, 2554220882, 2821834349, 2952996808, 3210313671, 3336571891, 3584528711, 113926993, 338241895, 666307205, 773529912, 1294757372, 1396182291, 1695183700, 1986661051, 2177026350, 2456956037, 2730485921, 2820302411, 3259730800, 3345764771, 3516065817, 3600352804, 4094571909, 275423344, 430227734, 506948616, 659060556, 883997877, 958139571, 1322822218, 1537002063, 1747873779, 1955562222, 2024104815, 2227730452, 2361852424, 2428436474, 2756734187, 3204031479, 3329325298]) t204 0)) else (none)) else (none)))) else (none)) else (none)))) = some r := h
 clear h
 revert H; refine oa_ fun _ A2 => oy_ fun y196 Ny196 => ne_ fun c3 c3b0 c3b1 => nd_ fun c4 c4b0 H => ?_
 have c4b1 : decide (0 < y196.length) = true := decide_eq_true (by omega)
 clear c3 c4
 generalize e_ : ([1779033703, 3144134277, 1013904242, 2773480762, 1359893119, 2600822924, 528734635, 1541459225] : List Int) = y199 at H
 have Ny199 := Aside0.mk e_.symm
 clear e_
 revert H; refine oa_ fun _ A6 => oy_ fun y200 Ny200 => ne_ fun c7 c7b0 c7b1 => nd_ fun c8 c8b0 H => ?_
 have c8b1 : decide (0 < y200.length) = true := decide_eq_true (by omega)
 clear c7 c8
 generalize e_ : ([1116352408, 1899447441, 3049323471, 3921009573, 961987163, 1508970993, 2453635748, 2870763221, 3624381080, 310598401, 607225278, 1426881987, 1925078388, 2162078206, 2614888103, 3248222580, 3835390401, 4022224774, 264347078, 604807628, 770255983, 1249150122, 1555081692, 1996064986, 2554220882, 2821834349, 2952996808, 3210313671, 3336571891, 3584528711, 113926993, 338241895, 666307205, 773529912, 1294757372, 1396182291, 1695183700, 1986661051, 2177026350, 2456956037, 2730485921, 2820302411, 3259730800, 3345764771, 3516065817, 3600352804, 4094571909, 275423344, 430227734, 506948616, 659060556, 883997877, 958139571, 1322822218, 1537002063, 1747873779, 1955562222, 2024104815, 2227730452, 2361852424, 2428436474, 2756734187, 3204031479, 3329325298] : List Int) = y203 at H
 have Ny203 := Aside0.mk e_.symm
 clear e_
 revert H; refine oa_ fun t204 A10 H => ?_
 have H' := Aside0.mk H
 clear H
 go_enter Tryz.func62, Tryz.ntmps62
 go_wp2_with (first | ((with_reducible refine gate_callee (f := 91) rfl ?_); refine gL_ 30 Tryz.func91 #[] ?_; (with_reducible refine (Ur.calls   _ A2.out).mono ?_); rintro e w11 ⟨rfl, hb⟩; refine ⟨_, rfl, ?_⟩; replace HB := Aside0.mk (below_step bl_ hb); clear hb) | ((with_reducible refine gate_dst (N := 3) rfl ?_); refine R_arr (Value.int .u32) (fun _ => rfl) _ 130 ?hg (N := 3) ?hd (List.replicate 8 0) ?hr (Below.refl _ _) (Nat.le_refl _) (by decide) ?_; (case hd => rfl); (case hg => rfl); (case hr => exact gr_); intro v197 w12 ho13 hb hg_ hnew_; clear hg_ hnew_; (first | rw [← Ny196.out] at ho13 | (simp only [Int.reduceToNat] at ho13; rw [← Ny196.out] at ho13)); have HO198 := Aside0.mk (Kd.R_lower ho13 (below_size bl_)); replace HB := Aside0.mk (below_step bl_ hb); clear hb ho13; have qa5 : ((0 : Int) < (8 : Int)) = True := eq_true (by have e_ : y196.length = 8 := ad_; have h_ : (0 : Int) < ((y196.length : Int) : Int) := ad_; omega); have p5 : 0 ≤ (0 : Int) := (by omega); have q5 : (0 : Int) < ((y196.length : Int) : Int) := ad_; have qi5 : (0 < y196.length) = True := eq_true (by omega); obtain ⟨go5, co5, eo5, gb5, gl5, cl5, HG5⟩ := Kd.R_form HO198.out (by omega); (first | cases eo5 | (injection eo5 with ea_ en_ ec_; (first | subst ea_ | (injection ea_ with ea_; subst ea_)); subst ec_; clear en_)); have GB5 := Aside0.mk gb5; have GG5 := Aside0.mk HG5; clear gb5 gl5 HG5; obtain ⟨hx5_0, hf5_0⟩ := Kd.R_celln 0 HO198.out (0 : Int) p5 q5; (rw [show ((0 : Int)).toNat = 0 from rfl] at hx5_0); (rw [show ((0 : Int)).toNat = 0 from rfl] at hf5_0); replace p5 := eq_true p5; replace q5 := eq_true q5; have HP14 := R_whole (ys := [1779033703, 3144134277, 1013904242, 2773480762, 1359893119, 2600822924, 528734635, 1541459225]) HO198.out (by have e_ : y196.length = 8 := ad_; have e2_ := (Kd.R_reads' HO198.out).1; first | (rw [e_]; rfl) | (simp only [List.length_cons, List.length_nil]; omega))) | ((with_reducible refine gate_store (t := 130) (p := 3) rfl ?_); refine store_event (t := 130) (p := 3) (v := ?vo_w15) (w1 := (w12.setCells go5 0 (encs (Value.int .u32) [1779033703, 3144134277, 1013904242, 2773480762, 1359893119, 2600822924, 528734635, 1541459225]))) ?hg ?ho ?hn ?hr ?_; (case ho => rfl); (case hg => rfl); (case hn => rfl); (case hr => exact whole_run (ys := [1779033703, 3144134277, 1013904242, 2773480762, 1359893119, 2600822924, 528734635, 1541459225]) rfl rfl rfl (by kernel_rfl) HO198.out (by have e_ : y196.length = 8 := ad_; have e2_ := (Kd.R_reads' HO198.out).1; first | (rw [e_]; rfl) | (simp only [List.length_cons, List.length_nil]; omega))); intro w15 hw; have hg : w12.grownBy w15 (some go5) := (by rw [hw]; exact HP14.2); have hp_ : Kd.R (Kd.int .u32) 130 w15 w.heap.size (fun _ => True) (.slice (some ⟨go5, 0, none⟩) y196.length co5) y199 := (by rw [hw, Ny199.out]; exact HP14.1); clear HP14; replace HB := Aside0.mk ((Below.grown HB.out hg (below_size HB.out) (fun k_ e_ => (Option.some.inj e_) ▸ GB5.out) : Below w.heap.size w w15)); replace HO198 := Aside0.mk (hp_); clear hg hw hp_) | ((with_reducible refine gate_callee (f := 92) rfl ?_); refine gL_ 31 Tryz.func92 #[] ?_; (with_reducible refine (Uu.calls   _ A6.out).mono ?_); rintro e w16 ⟨rfl, hb⟩; refine ⟨_, rfl, ?_⟩; replace HB := Aside0.mk (below_step bl_ hb); replace HO198 := Aside0.mk (Kd.R_below (mv_ HO198.out) hb); clear hb) | ((with_reducible refine gate_dst (N := 4) rfl ?_); refine R_arr (Value.int .u32) (fun _ => rfl) _ 132 ?hg (N := 4) ?hd (List.replicate 64 0) ?hr (Below.refl _ _) (Nat.le_refl _) (by decide) ?_; (case hd => rfl); (case hg => rfl); (case hr => exact gr_); intro v201 w17 ho18 hb hg_ hnew_; clear hg_ hnew_; (first | rw [← Ny200.out] at ho18 | (simp only [Int.reduceToNat] at ho18; rw [← Ny200.out] at ho18)); have HO202 := Aside0.mk (Kd.R_lower ho18 (below_size bl_)); replace HB := Aside0.mk (below_step bl_ hb); replace HO198 := Aside0.mk (Kd.R_below (mv_ HO198.out) hb); clear hb ho18; have qa9 : ((0 : Int) < (64 : Int)) = True := qa_ y200 64; have p9 : 0 ≤ (0 : Int) := (by omega); have q9 : (0 : Int) < ((y200.length : Int) : Int) := ad_; have qi9 : (0 < y200.length) = True := eq_true (by omega); obtain ⟨go9, co9, eo9, gb9, gl9, cl9, HG9⟩ := Kd.R_form HO202.out (by omega); (first | cases eo9 | (injection eo9 with ea_ en_ ec_; (first | subst ea_ | (injection ea_ with ea_; subst ea_)); subst ec_; clear en_)); have GB9 := Aside0.mk gb9; have GG9 := Aside0.mk HG9; clear gb9 gl9 HG9; obtain ⟨hx9_0, hf9_0⟩ := Kd.R_celln 0 HO202.out (0 : Int) p9 q9; (rw [show ((0 : Int)).toNat = 0 from rfl] at hx9_0); (rw [show ((0 : Int)).toNat = 0 from rfl] at hf9_0); replace p9 := eq_true p9; replace q9 := eq_true q9; have HP19 := R_whole (ys := [1116352408, 1899447441, 3049323471, 3921009573, 961987163, 1508970993, 2453635748, 2870763221, 3624381080, 310598401, 607225278, 1426881987, 1925078388, 2162078206, 2614888103, 3248222580, 3835390401, 4022224774, 264347078, 604807628, 770255983, 1249150122, 1555081692, 1996064986, 2554220882, 2821834349, 2952996808, 3210313671, 3336571891, 3584528711, 113926993, 338241895, 666307205, 773529912, 1294757372, 1396182291, 1695183700, 1986661051, 2177026350, 2456956037, 2730485921, 2820302411, 3259730800, 3345764771, 3516065817, 3600352804, 4094571909, 275423344, 430227734, 506948616, 659060556, 883997877, 958139571, 1322822218, 1537002063, 1747873779, 1955562222, 2024104815, 2227730452, 2361852424, 2428436474, 2756734187, 3204031479, 3329325298]) HO202.out (by have e_ : y200.length = 64 := ad_; have e2_ := (Kd.R_reads' HO202.out).1; first | (rw [e_]; rfl) | (simp only [List.length_cons, List.length_nil]; omega))) | ((with_reducible refine gate_store (t := 132) (p := 4) rfl ?_); refine store_event (t := 132) (p := 4) (v := ?vo_w20) (w1 := (w17.setCells go9 0 (encs (Value.int .u32) [1116352408, 1899447441, 3049323471, 3921009573, 961987163, 1508970993, 2453635748, 2870763221, 3624381080, 310598401, 607225278, 1426881987, 1925078388, 2162078206, 2614888103, 3248222580, 3835390401, 4022224774, 264347078, 604807628, 770255983, 1249150122, 1555081692, 1996064986, 2554220882, 2821834349, 2952996808, 3210313671, 3336571891, 3584528711, 113926993, 338241895, 666307205, 773529912, 1294757372, 1396182291, 1695183700, 1986661051, 2177026350, 2456956037, 2730485921, 2820302411, 3259730800, 3345764771, 3516065817, 3600352804, 4094571909, 275423344, 430227734, 506948616, 659060556, 883997877, 958139571, 1322822218, 1537002063, 1747873779, 1955562222, 2024104815, 2227730452, 2361852424, 2428436474, 2756734187, 3204031479, 3329325298]))) ?hg ?ho ?hn ?hr ?_; (case ho => rfl); (case hg => rfl); (case hn => rfl); (case hr => exact whole_run (ys := [1116352408, 1899447441, 3049323471, 3921009573, 961987163, 1508970993, 2453635748, 2870763221, 3624381080, 310598401, 607225278, 1426881987, 1925078388, 2162078206, 2614888103, 3248222580, 3835390401, 4022224774, 264347078, 604807628, 770255983, 1249150122, 1555081692, 1996064986, 2554220882, 2821834349, 2952996808, 3210313671, 3336571891, 3584528711, 113926993, 338241895, 666307205, 773529912, 1294757372, 1396182291, 1695183700, 1986661051, 2177026350, 2456956037, 2730485921, 2820302411, 3259730800, 3345764771, 3516065817, 3600352804, 4094571909, 275423344, 430227734, 506948616, 659060556, 883997877, 958139571, 1322822218, 1537002063, 1747873779, 1955562222, 2024104815, 2227730452, 2361852424, 2428436474, 2756734187, 3204031479, 3329325298]) rfl rfl rfl (by kernel_rfl) HO202.out (by have e_ : y200.length = 64 := ad_; have e2_ := (Kd.R_reads' HO202.out).1; first | (rw [e_]; rfl) | (simp only [List.length_cons, List.length_nil]; omega))); intro w20 hw; have hg : w17.grownBy w20 (some go9) := (by rw [hw]; exact HP19.2); have hp_ : Kd.R (Kd.int .u32) 132 w20 w.heap.size (fun _ => True) (.slice (some ⟨go9, 0, none⟩) y200.length co9) y203 := (by rw [hw, Ny203.out]; exact HP19.1); clear HP19; replace HB := Aside0.mk ((Below.grown HB.out hg (below_size HB.out) (fun k_ e_ => (Option.some.inj e_) ▸ GB9.out) : Below w.heap.size w w20)); replace HO198 := Aside0.mk (Kd.R_over' (v := (.slice (some ⟨go9, 0, none⟩) y200.length co9)) (mv_ HO198.out) (Kd.R_typed HO202.out) (by decide) hg); replace HO202 := Aside0.mk (hp_); clear hg hw hp_) | ((with_reducible refine gate_callee (f := 93) rfl ?_); refine gL_ 33 Tryz.func93 #[.string a0] ?_; (with_reducible refine (Jd.calls k a0 t204 _ A10.out).mono ?_); rintro e w21 ⟨rfl, hb⟩; refine ⟨_, rfl, ?_⟩; replace HB := Aside0.mk (below_step bl_ hb); replace HO202 := Aside0.mk (Kd.R_below (mv_ HO202.out) hb); replace HO198 := Aside0.mk (Kd.R_below (mv_ HO198.out) hb); clear hb))
 go_loopg [6] k (fun kq v6 w' => ∃ (x3_1 : List Int) (x4_1 : List Int) (x6_1 : Int), v6 = .int .i64 x6_1 ∧ Aside0 (Ja.l0 kq x3_1 x4_1 t204 x6_1 = some r) ∧ Aside0 (kq ≤ k) ∧ Aside0 (Kd.R (Kd.int .u32) 130 w' w.heap.size (fun _ => True) (.slice (some ⟨go5, 0, none⟩) y196.length co5) x3_1) ∧ Aside0 (Kd.R (Kd.int .u32) 132 w' w.heap.size (fun _ => True) (.slice (some ⟨go9, 0, none⟩) y200.length co9) x4_1) ∧ Aside0 (Below w.heap.size w w'))
 case atStart => exact ⟨(y199), (y203), (0), vq_, H', ⟨Nat.le_refl _⟩, ⟨mv_ HO198.out⟩, ⟨mv_ HO202.out⟩, ⟨bl_⟩⟩
 case round =>
  clear H'
  clear c3b0 c3b1 c4b0 c4b1 p5 q5 qi5 c7b0 c7b1 c8b0 c8b1 p9 q9 qi9 hx5_0 hx9_0
  obtain ⟨x3_1, x4_1, x6_1, rfl, HA, HK1, HO_3, HO_4, HB⟩ := hrel
  have hl3_1 := (Kd.R_reads' HO_3.out).1
  rw [hl3_1] at HO_3
  simp only [hl3_1]
  have hl4_1 := (Kd.R_reads' HO_4.out).1
  rw [hl4_1] at HO_4
  simp only [hl4_1]
  cases gk with
  | zero => exact absurd HA.out (by simp [Ja.l0])
  | succ k1 =>
   have H := HA.out
   clear HA
   simp only [Ja.l0] at H
   by_cases c22 : x6_1 < (t204.size : Int)
   ·refine Nonempty.elim ?gc22p id
    letI i_ : type_of% ?gc22p := ⟨by
    rw [if_pos c22] at H
    have c22b0 : decide (x6_1 < (t204.size : Int)) = true := decide_eq_true c22
    clear c22
    generalize e_ : (List.replicate 64 0 : List Int) = y205 at H
    have Ny205 := Aside0.mk e_.symm
    clear e_
    have H' := Aside0.mk H
    clear H
    go_wp2_with (first | ((with_reducible refine gate_dst (N := 7) rfl ?_); refine R_arr (Value.int .u32) (fun _ => rfl) _ 132 ?hg (N := 7) ?hd (List.replicate 64 0) ?hr (Below.refl _ _) (Nat.le_refl _) (by decide) ?_; (case hd => rfl); (case hg => rfl); (case hr => exact gr_); intro v206 w23 ho24 hb hg_ hnew_; clear hg_ hnew_; (first | rw [← Ny205.out] at ho24 | (simp only [Int.reduceToNat] at ho24; rw [← Ny205.out] at ho24)); have HO207 := Aside0.mk (Kd.R_lower (Kd.R_new' ho24 (Kd.R_lt (mv_ HO_4.out))) (below_size bl_)); replace HB := Aside0.mk (below_step bl_ hb); replace HO_4 := Aside0.mk (Kd.R_elder' (mv_ HO_4.out) (Kd.R_base ho24) hb); replace HO_3 := Aside0.mk (Kd.R_below (mv_ HO_3.out) hb); clear hb ho24))
    go_loopg [8] k1 (fun kq v8 w' => ∃ (x7_2 : List Int) (x8_2 : Int), v8 = .int .i64 x8_2 ∧ Aside0 (Ja.l1 kq x3_1 x4_1 t204 x6_1 x7_2 x8_2 = some r) ∧ Aside0 (kq ≤ k1) ∧ Aside0 (Kd.R (Kd.int .u32) 130 w' w.heap.size (fun _ => True) (.slice (some ⟨go5, 0, none⟩) x3_1.length co5) x3_1) ∧ Aside0 (Kd.R (Kd.int .u32) 132 w' w.heap.size (fun k_ => some k_ ≠ (v206 : Value).ownBlock) (.slice (some ⟨go9, 0, none⟩) x4_1.length co9) x4_1) ∧ Aside0 (Kd.R (Kd.int .u32) 132 w' w.heap.size (fun k_ => some k_ ≠ ((.slice (some ⟨go9, 0, none⟩) x4_1.length co9) : Value).ownBlock) v206 x7_2) ∧ Aside0 (Below w.heap.size w w'))
    case atStart => exact ⟨(y205), (0), vq_, H', ⟨Nat.le_refl _⟩, ⟨by refine mv_ ?_; exact HO_3.out⟩, ⟨by refine mv_ ?_; exact Kd.R_mono HO_4.out (fun _ hk => hk.2)⟩, ⟨by refine mv_ ?_; exact Kd.R_mono HO207.out (fun _ hk => hk.2)⟩, ⟨bl_⟩⟩
    case round =>
     clear H'
     clear c22b0
     obtain ⟨x7_2, x8_2, rfl, HA, HK2, HO_3, HO_4, HO_7, HB⟩ := hrel
     cases gk with
     | zero => exact absurd HA.out (by simp [Ja.l1])
     | succ k2 =>
      have H := HA.out
      clear HA
      simp only [Ja.l1] at H
      by_cases c25 : x8_2 < 64
      ·refine Nonempty.elim ?gc25p id
       letI i_ : type_of% ?gc25p := ⟨by
       rw [if_pos c25] at H
       have c25b0 : decide (x8_2 < 64) = true := decide_eq_true c25
       clear c25
       by_cases c26 : x8_2 < 16
       ·refine Nonempty.elim ?gc26p id
        letI i_ : type_of% ?gc26p := ⟨by
        rw [if_pos c26] at H
        have c26b0 : decide (x8_2 < 16) = true := decide_eq_true c26
        clear c26
        generalize hji27 : (wrap64 (x6_1 + (wrap64 (4 * x8_2)))) = ji27 at H
        have hji27w := (i64_w _).trans hji27
        by_cases c28 : 0 ≤ (ji27)
        ·rw [if_pos c28] at H
         have c28b0 : decide (0 ≤ (ji27)) = true := decide_eq_true c28
         clear c28
         revert H; refine nd_ fun c29 c29b0 H => ?_
         clear c29
         generalize hji31 : (wrap64 ((ji27) + 1)) = ji31 at H
         have hji31w := (i64_w _).trans hji31
         revert H; refine nd_ fun c32 c32b0 => nd_ fun c33 c33b0 H => ?_
         clear c32 c33
         generalize hji35 : (wrap64 ((ji27) + 2)) = ji35 at H
         have hji35w := (i64_w _).trans hji35
         revert H; refine nd_ fun c36 c36b0 => nd_ fun c37 c37b0 H => ?_
         clear c36 c37
         generalize hji39 : (wrap64 ((ji27) + 3)) = ji39 at H
         have hji39w := (i64_w _).trans hji39
         revert H; refine nd_ fun c40 c40b0 => nd_ fun c41 c41b0 => ne_ fun c43 c43b0 c43b1 => nd_ fun c44 c44b0 => nd_ fun c45 c45b0 H => ?_
         clear c40 c41 c43 c44 c45
         generalize e_ : (x7_2.set (x8_2 : Int).toNat (((((((bt t204 (ji27)) % 4294967296) * 16777216) + (((bt t204 (ji31)) % 4294967296) * 65536)) + (((bt t204 (ji35)) % 4294967296) * 256)) + (bt t204 (ji39))) % 4294967296) : List Int) = y208 at H
         have Ny208 := Aside0.mk e_.symm
         clear e_
         have H' := Aside0.mk H
         clear H
         try go_wp2
         replace HB := Aside0.mk (below_drew1 HB.out)
         replace HO_7 := Aside0.mk (Kd.R_drew HO_7.out)
         replace HO_4 := Aside0.mk (Kd.R_drew HO_4.out)
         replace HO_3 := Aside0.mk (Kd.R_drew HO_3.out)
         have p30 := eq_true (ad_ : 0 ≤ ((ji27) : Int))
         have q30 := eq_true (ad_ : (ji27) < (t204.size : Int))
         have hx30 := bt_at t204 (ji27)
         have p34 := eq_true (ad_ : 0 ≤ ((ji31) : Int))
         have q34 := eq_true (ad_ : (ji31) < (t204.size : Int))
         have hx34 := bt_at t204 (ji31)
         have p38 := eq_true (ad_ : 0 ≤ ((ji35) : Int))
         have q38 := eq_true (ad_ : (ji35) < (t204.size : Int))
         have hx38 := bt_at t204 (ji35)
         have p42 := eq_true (ad_ : 0 ≤ ((ji39) : Int))
         have q42 := eq_true (ad_ : (ji39) < (t204.size : Int))
         have hx42 := bt_at t204 (ji39)
         have qa46 : ((x8_2 : Int) < (64 : Int)) = True := qa_ x7_2 64
         have p46 : 0 ≤ (x8_2 : Int) := ad_
         have q46 : (x8_2 : Int) < ((x7_2.length : Int) : Int) := ad_
         obtain ⟨go46, co46, eo46, gb46, gl46, cl46, HG46⟩ := Kd.R_form HO_7.out (by omega)
         (first | cases eo46 | (injection eo46 with ea_ en_ ec_; (first | subst ea_ | (injection ea_ with ea_; subst ea_)); subst ec_; clear en_))
         have GB46 := Aside0.mk gb46
         have GG46 := Aside0.mk HG46
         clear gb46 gl46 HG46
         obtain ⟨hx46_0, hf46_0⟩ := Kd.R_celln 0 HO_7.out (x8_2 : Int) p46 q46
         replace p46 := eq_true p46
         replace q46 := eq_true q46
         have HP48 := Kd.R_putn HO_7.out (x8_2 : Int) (((((((bt t204 (ji27)) % 4294967296) * 16777216) + (((bt t204 (ji31)) % 4294967296) * 65536)) + (((bt t204 (ji35)) % 4294967296) * 256)) + (bt t204 (ji39))) % 4294967296)
         rw [← Ny208.out] at HP48
         have HQ48 := Aside0.mk HP48
         clear HP48
         refine sK_ 40 (fun w' => True) [39] Ja.tab12 Ja.bits12 trivial fun hHeld HT_ HW_ => ?_
         generalize wr.drew = w47 at HO_3 HO_4 HO_7 HB GG46 HQ48 hf46_0 hx46_0 hHeld ⊢
         refine runs_ [(0, some 46), (1, some 47), (2, some 48), (3, some 49), (4, some 50), (5, some 51), (9, some 55), (10, some 56), (11, some 57), (12, some 58), (13, some 59), (14, some 60), (19, some 65), (20, some 66), (21, some 67), (22, some 68), (23, some 69), (24, some 70), (29, some 75), (30, some 76), (31, some 77), (32, some 78), (33, some 79), (34, some 80), (6, some 52), (7, some 53), (8, some 54), (15, some 61), (16, some 62), (17, some 63), (18, some 64), (25, some 71), (26, some 72), (27, some 73), (28, some 74), (35, some 81), (36, some 82), (37, some 83), (38, some 84)] ?_
         (iterate 24 (refine pL_ ?_)); refine tL_ ?_; (iterate 2 (refine pL_ ?_)); (iterate 3 (refine tL_ ?_; iterate 3 (refine pL_ ?_))); refine runsE_ ?_
         refine lK_ 39 none fun K hK => ?_
         refine skip_set ⟨go46, (x8_2 : Int).toNat, none⟩ (.int .u32 (((((((bt t204 (ji27)) % 4294967296) * 16777216) + (((bt t204 (ji31)) % 4294967296) * 65536)) + (((bt t204 (ji35)) % 4294967296) * 256)) + (bt t204 (ji39))) % 4294967296)) (by rfl) rfl ?_ ?_
         ·first | (go_simp; done) | (go_simp; rfl) | (go_simp; (simp only [IntKind.wrap_u32, IntKind.wrap_u8]); refine congrArg (fun v_ => World.setCell _ _ (Value.int _ v_)) ?_; omega)
         refine hK.out _ _ ?_
         clear hK K
         refine dK_ ?_
         try go_wp2
         go_roundg k2
         case measure => have := HK1.out; have := HK2.out; omega
         case rel => exact ⟨(y208), (wrap64 (x8_2 + 1)), vq_, H', ⟨by have := HK1.out; have := HK2.out; omega⟩, ⟨by refine mv_ ?_; exact Kd.R_mono (Kd.R_far (p := ⟨go46, (x8_2 : Int).toNat, none⟩) (Kd.R_types HO_3.out GG46.out (by decide)) (fun _ hk => hk.2) (.int .u32 (((((((bt t204 (ji27)) % 4294967296) * 16777216) + (((bt t204 (ji31)) % 4294967296) * 65536)) + (((bt t204 (ji35)) % 4294967296) * 256)) + (bt t204 (ji39))) % 4294967296))) (fun _ hk => trivial)⟩, ⟨by refine mv_ ?_; exact Kd.R_mono (Kd.R_far (p := ⟨go46, (x8_2 : Int).toNat, none⟩) (Kd.R_mono HO_4.out (fun k_ hk => (⟨hk, fun e_ => hk (by rw [e_]; rfl)⟩ : _ ∧ k_ ≠ go46))) (fun _ hk => hk.2) (.int .u32 (((((((bt t204 (ji27)) % 4294967296) * 16777216) + (((bt t204 (ji31)) % 4294967296) * 65536)) + (((bt t204 (ji35)) % 4294967296) * 256)) + (bt t204 (ji39))) % 4294967296))) (fun _ hk => hk.1)⟩, ⟨by refine mv_ ?_; exact HQ48.out⟩, ⟨bs_ GB46.out⟩⟩
        ·rw [if_neg c28] at H
         exact absurd H (by simp)
        ⟩
        exact inferInstanceAs _
       ·refine Nonempty.elim ?gc26n id
        letI i_ : type_of% ?gc26n := ⟨by
        rw [if_neg c26] at H
        have c26b0 : decide (x8_2 < 16) = false := decide_eq_false c26
        clear c26
        by_cases c49 : x7_2.length = 64
        ·rw [if_pos c49] at H
         have c49b0 := eq_true c49
         have c49b1 : decide (x7_2.length = 64) = true := decide_eq_true c49
         clear c49
         generalize hji50 : (wrap64 (x8_2 - 15)) = ji50 at H
         have hji50w := (i64_w _).trans hji50
         revert H; refine nd_ fun c51 c51b0 => nd_ fun c52 c52b0 => oa_ fun t210 A53 => oa_ fun t212 A54 H => ?_
         clear c51 c52
         generalize hji55 : (wrap64 (x8_2 - 2)) = ji55 at H
         have hji55w := (i64_w _).trans hji55
         revert H; refine nd_ fun c56 c56b0 => nd_ fun c57 c57b0 => oa_ fun t215 A58 => oa_ fun t217 A59 H => ?_
         clear c56 c57
         generalize hji60 : (wrap64 (x8_2 - 16)) = ji60 at H
         have hji60w := (i64_w _).trans hji60
         revert H; refine nd_ fun c61 c61b0 => nd_ fun c62 c62b0 H => ?_
         clear c61 c62
         generalize hji63 : (wrap64 (x8_2 - 7)) = ji63 at H
         have hji63w := (i64_w _).trans hji63
         revert H; refine nd_ fun c64 c64b0 => nd_ fun c65 c65b0 => nd_ fun c66 c66b0 => nd_ fun c67 c67b0 H => ?_
         clear c64 c65 c66 c67
         generalize e_ : (x7_2.set (x8_2 : Int).toNat (((((rd x7_2 (ji60)) + (Go.bits .xor .u32 (Go.bits .xor .u32 t210 t212) ((rd x7_2 (ji50)) / 8))) + (rd x7_2 (ji63))) + (Go.bits .xor .u32 (Go.bits .xor .u32 t215 t217) ((rd x7_2 (ji55)) / 1024))) % 4294967296) : List Int) = y221 at H
         have Ny221 := Aside0.mk e_.symm
         clear e_
         have H' := Aside0.mk H
         clear H
         try go_wp2
         replace HB := Aside0.mk (below_drew1 HB.out)
         replace HO_7 := Aside0.mk (Kd.R_drew HO_7.out)
         replace HO_4 := Aside0.mk (Kd.R_drew HO_4.out)
         replace HO_3 := Aside0.mk (Kd.R_drew HO_3.out)
         obtain ⟨Ao70, co70, eo70⟩ := Kd.R_slice HO_7.out
         (first | subst eo70 | (injection eo70 with f1_ f2_ f3_; have f4_ := f1_.symm; have f5_ := f3_.symm; clear f1_ f2_ f3_; subst f4_; subst f5_))
         have qa209 : (((ji50) : Int) < (64 : Int)) = True := qa_ x7_2 64
         have p209 : 0 ≤ ((ji50) : Int) := ad_
         have q209 : (ji50) < (x7_2.length : Int) := ad_
         obtain ⟨ad209, e209, hx209_0⟩ := Kd.at_int (Kd.R_reads' HO_7.out).2.2 (ji50) p209 q209
         cases e209
         replace p209 := eq_true p209
         replace q209 := eq_true q209
         have qa211 : (((ji50) : Int) < (64 : Int)) = True := qa_ x7_2 64
         have p211 : 0 ≤ ((ji50) : Int) := ad_
         have q211 : (ji50) < (x7_2.length : Int) := ad_
         obtain ⟨ad211, e211, hx211_0⟩ := Kd.at_int (Kd.R_reads' HO_7.out).2.2 (ji50) p211 q211
         obtain rfl : ad209 = ad211 := (by injection e211)
         replace p211 := eq_true p211
         replace q211 := eq_true q211
         have qa213 : (((ji50) : Int) < (64 : Int)) = True := qa_ x7_2 64
         have p213 : 0 ≤ ((ji50) : Int) := ad_
         have q213 : (ji50) < (x7_2.length : Int) := ad_
         obtain ⟨ad213, e213, hx213_0⟩ := Kd.at_int (Kd.R_reads' HO_7.out).2.2 (ji50) p213 q213
         obtain rfl : ad209 = ad213 := (by injection e213)
         replace p213 := eq_true p213
         replace q213 := eq_true q213
         refine sK_ 18 (fun w' => w'.cell? (ad209.add ((ji50)).toNat) = some (.int .u32 (rd x7_2 (ji50))) ∧ w'.cell? (ad209.add ((ji50)).toNat) = some (.int .u32 (rd x7_2 (ji50))) ∧ w'.cell? (ad209.add ((ji50)).toNat) = some (.int .u32 (rd x7_2 (ji50)))) [] Ja.tab13 Ja.bits13 ⟨hx209_0, hx211_0, hx213_0⟩ fun hHeld HT_ HW_ => ?_
         generalize wr.drew = w69 at HO_3 HO_4 HO_7 HB hx209_0 hx211_0 hx213_0 hHeld ⊢
         refine runs_ [(0, some 85), (1, some 86), (2, some 87), (5, some 90), (6, some 91), (7, some 92), (11, some 96), (12, some 97), (13, some 98), (3, some 88), (8, some 93), (14, some 99), (15, some 100)] ?_
         (iterate 9 (refine pL_ ?_)); (iterate 3 (refine tL_ ?_)); refine pL_ ?_; refine runsE_ ?_
         refine oK_ 4 (some 89) fun K hK => ?_
         refine goes_ Tryz.func94 (by kernel_rfl) rfl #[.int .u32 (rd x7_2 (ji50)), .int .u32 7] (by rfl) rfl rfl (by (simp only [List.map_toArray, List.map_cons, List.map_nil]); first | done | (simp only [hji50]; rfl) | rfl | (simp only [List.length_drop, List.length_take]; rfl)) ?_
         with_reducible refine (Jv.calls (rd x7_2 (ji50)) 7 t210 _ A53.out).mono ?_
         rintro e w' ⟨rfl, ⟨nd, rfl⟩⟩
         refine ⟨_, rfl, ?_⟩
         refine hK.out _ _ ⟨hHeld.1, hHeld.2.1, hHeld.2.2⟩ (fun hHeld => ?_)
         clear hK K
         refine nK_ (some 89) ?_
         refine oK_ 9 (some 94) fun K hK => ?_
         refine goes_ Tryz.func94 (by kernel_rfl) rfl #[.int .u32 (rd x7_2 (ji50)), .int .u32 18] (by rfl) rfl rfl (by (simp only [List.map_toArray, List.map_cons, List.map_nil]); first | done | (simp only [hji50]; rfl) | rfl | (simp only [List.length_drop, List.length_take]; rfl)) ?_
         with_reducible refine (Jv.calls (rd x7_2 (ji50)) 18 t212 _ A54.out).mono ?_
         rintro e w' ⟨rfl, ⟨nd, rfl⟩⟩
         refine ⟨_, rfl, ?_⟩
         refine hK.out _ _ ⟨hHeld.1, hHeld.2.1, hHeld.2.2⟩ (fun hHeld => ?_)
         clear hK K
         refine nK_ (some 94) ?_
         refine runs_ [(10, some 95), (16, some 101), (17, some 9)] ?_
         (iterate 3 (refine pL_ ?_)); refine runsE_ ?_
         refine dK_ ?_
         try go_wp2
         (rw [drewN_self w69]; generalize hq_ : World.drewN w69 _ = w69; have n0_ : Aside0 (Kd.R (Kd.int .u32) 130 w69 w.heap.size (fun _ => True) (.slice (some ⟨go5, 0, none⟩) x3_1.length co5) x3_1) := ⟨by rw [← hq_]; exact (mv_ HO_3.out)⟩; have n1_ : Aside0 (Kd.R (Kd.int .u32) 132 w69 w.heap.size (fun k_ => some k_ ≠ (.slice (some ad209) x7_2.length co70 : Value).ownBlock) (.slice (some ⟨go9, 0, none⟩) x4_1.length co9) x4_1) := ⟨by rw [← hq_]; exact (mv_ HO_4.out)⟩; have n2_ : Aside0 (Kd.R (Kd.int .u32) 132 w69 w.heap.size (fun k_ => some k_ ≠ (.slice (some ⟨go9, 0, none⟩) x4_1.length co9 : Value).ownBlock) (.slice (some ad209) x7_2.length co70) x7_2) := ⟨by rw [← hq_]; exact (mv_ HO_7.out)⟩; have n3_ : Aside0 (Below w.heap.size w w69) := ⟨by rw [← hq_]; exact bl_⟩; clear HO_3 HO_4 HO_7 HB hq_; have HO_3 := n0_; have HO_4 := n1_; have HO_7 := n2_; have HB := n3_; clear n0_ n1_ n2_ n3_)
         replace HB := Aside0.mk (below_drew1 HB.out)
         replace HO_7 := Aside0.mk (Kd.R_drew HO_7.out)
         replace HO_4 := Aside0.mk (Kd.R_drew HO_4.out)
         replace HO_3 := Aside0.mk (Kd.R_drew HO_3.out)
         have qa214 : (((ji55) : Int) < (64 : Int)) = True := qa_ x7_2 64
         have p214 : 0 ≤ ((ji55) : Int) := ad_
         have q214 : (ji55) < (x7_2.length : Int) := ad_
         obtain ⟨ad214, e214, hx214_0⟩ := Kd.at_int (Kd.R_reads' HO_7.out).2.2 (ji55) p214 q214
         obtain rfl : ad209 = ad214 := (by injection e214)
         replace p214 := eq_true p214
         replace q214 := eq_true q214
         have qa216 : (((ji55) : Int) < (64 : Int)) = True := qa_ x7_2 64
         have p216 : 0 ≤ ((ji55) : Int) := ad_
         have q216 : (ji55) < (x7_2.length : Int) := ad_
         obtain ⟨ad216, e216, hx216_0⟩ := Kd.at_int (Kd.R_reads' HO_7.out).2.2 (ji55) p216 q216
         obtain rfl : ad209 = ad216 := (by injection e216)
         replace p216 := eq_true p216
         replace q216 := eq_true q216
         have qa218 : (((ji55) : Int) < (64 : Int)) = True := qa_ x7_2 64
         have p218 : 0 ≤ ((ji55) : Int) := ad_
         have q218 : (ji55) < (x7_2.length : Int) := ad_
         obtain ⟨ad218, e218, hx218_0⟩ := Kd.at_int (Kd.R_reads' HO_7.out).2.2 (ji55) p218 q218
         obtain rfl : ad209 = ad218 := (by injection e218)
         replace p218 := eq_true p218
         replace q218 := eq_true q218
         refine sK_ 18 (fun w' => w'.cell? (ad209.add ((ji55)).toNat) = some (.int .u32 (rd x7_2 (ji55))) ∧ w'.cell? (ad209.add ((ji55)).toNat) = some (.int .u32 (rd x7_2 (ji55))) ∧ w'.cell? (ad209.add ((ji55)).toNat) = some (.int .u32 (rd x7_2 (ji55)))) [] Ja.tab14 Ja.bits14 ⟨hx214_0, hx216_0, hx218_0⟩ fun hHeld HT_ HW_ => ?_
         generalize w69.drew = w71 at HO_3 HO_4 HO_7 HB hx214_0 hx216_0 hx218_0 hHeld ⊢
         refine runs_ [(0, some 102), (1, some 103), (2, some 104), (5, some 107), (6, some 108), (7, some 109), (11, some 113), (12, some 114), (13, some 115), (3, some 105), (8, some 110), (14, some 116), (15, some 117)] ?_
         (iterate 9 (refine pL_ ?_)); (iterate 3 (refine tL_ ?_)); refine pL_ ?_; refine runsE_ ?_
         refine oK_ 4 (some 106) fun K hK => ?_
         refine goes_ Tryz.func94 (by kernel_rfl) rfl #[.int .u32 (rd x7_2 (ji55)), .int .u32 17] (by rfl) rfl rfl (by (simp only [List.map_toArray, List.map_cons, List.map_nil]); first | done | (simp only [hji55]; rfl) | rfl | (simp only [List.length_drop, List.length_take]; rfl)) ?_
         with_reducible refine (Jv.calls (rd x7_2 (ji55)) 17 t215 _ A58.out).mono ?_
         rintro e w' ⟨rfl, ⟨nd, rfl⟩⟩
         refine ⟨_, rfl, ?_⟩
         refine hK.out _ _ ⟨hHeld.1, hHeld.2.1, hHeld.2.2⟩ (fun hHeld => ?_)
         clear hK K
         refine nK_ (some 106) ?_
         refine oK_ 9 (some 111) fun K hK => ?_
         refine goes_ Tryz.func94 (by kernel_rfl) rfl #[.int .u32 (rd x7_2 (ji55)), .int .u32 19] (by rfl) rfl rfl (by (simp only [List.map_toArray, List.map_cons, List.map_nil]); first | done | (simp only [hji55]; rfl) | rfl | (simp only [List.length_drop, List.length_take]; rfl)) ?_
         with_reducible refine (Jv.calls (rd x7_2 (ji55)) 19 t217 _ A59.out).mono ?_
         rintro e w' ⟨rfl, ⟨nd, rfl⟩⟩
         refine ⟨_, rfl, ?_⟩
         refine hK.out _ _ ⟨hHeld.1, hHeld.2.1, hHeld.2.2⟩ (fun hHeld => ?_)
         clear hK K
         refine nK_ (some 111) ?_
         refine runs_ [(10, some 112), (16, some 118), (17, some 10)] ?_
         (iterate 3 (refine pL_ ?_)); refine runsE_ ?_
         refine dK_ ?_
         try go_wp2
         (rw [drewN_self w71]; generalize hq_ : World.drewN w71 _ = w71; have n0_ : Aside0 (Kd.R (Kd.int .u32) 130 w71 w.heap.size (fun _ => True) (.slice (some ⟨go5, 0, none⟩) x3_1.length co5) x3_1) := ⟨by rw [← hq_]; exact (mv_ HO_3.out)⟩; have n1_ : Aside0 (Kd.R (Kd.int .u32) 132 w71 w.heap.size (fun k_ => some k_ ≠ (.slice (some ad209) x7_2.length co70 : Value).ownBlock) (.slice (some ⟨go9, 0, none⟩) x4_1.length co9) x4_1) := ⟨by rw [← hq_]; exact (mv_ HO_4.out)⟩; have n2_ : Aside0 (Kd.R (Kd.int .u32) 132 w71 w.heap.size (fun k_ => some k_ ≠ (.slice (some ⟨go9, 0, none⟩) x4_1.length co9 : Value).ownBlock) (.slice (some ad209) x7_2.length co70) x7_2) := ⟨by rw [← hq_]; exact (mv_ HO_7.out)⟩; have n3_ : Aside0 (Below w.heap.size w w71) := ⟨by rw [← hq_]; exact bl_⟩; clear HO_3 HO_4 HO_7 HB hq_; have HO_3 := n0_; have HO_4 := n1_; have HO_7 := n2_; have HB := n3_; clear n0_ n1_ n2_ n3_)
         replace HB := Aside0.mk (below_drew1 HB.out)
         replace HO_7 := Aside0.mk (Kd.R_drew HO_7.out)
         replace HO_4 := Aside0.mk (Kd.R_drew HO_4.out)
         replace HO_3 := Aside0.mk (Kd.R_drew HO_3.out)
         have qa219 : (((ji60) : Int) < (64 : Int)) = True := qa_ x7_2 64
         have p219 : 0 ≤ ((ji60) : Int) := ad_
         have q219 : (ji60) < (x7_2.length : Int) := ad_
         obtain ⟨ad219, e219, hx219_0⟩ := Kd.at_int (Kd.R_reads' HO_7.out).2.2 (ji60) p219 q219
         obtain rfl : ad209 = ad219 := (by injection e219)
         replace p219 := eq_true p219
         replace q219 := eq_true q219
         have qa220 : (((ji63) : Int) < (64 : Int)) = True := qa_ x7_2 64
         have p220 : 0 ≤ ((ji63) : Int) := ad_
         have q220 : (ji63) < (x7_2.length : Int) := ad_
         obtain ⟨ad220, e220, hx220_0⟩ := Kd.at_int (Kd.R_reads' HO_7.out).2.2 (ji63) p220 q220
         obtain rfl : ad209 = ad220 := (by injection e220)
         replace p220 := eq_true p220
         replace q220 := eq_true q220
         have qa68 : ((x8_2 : Int) < (64 : Int)) = True := qa_ x7_2 64
         have p68 : 0 ≤ (x8_2 : Int) := ad_
         have q68 : (x8_2 : Int) < ((x7_2.length : Int) : Int) := ad_
         obtain ⟨go68, co68, eo68, gb68, gl68, cl68, HG68⟩ := Kd.R_form HO_7.out (by omega)
         (first | cases eo68 | (injection eo68 with ea_ en_ ec_; (first | subst ea_ | (injection ea_ with ea_; subst ea_)); subst ec_; clear en_))
         have GB68 := Aside0.mk gb68
         have GG68 := Aside0.mk HG68
         clear gb68 gl68 HG68
         (first | simp only [add_plain] at hx209_0 | skip)
         (first | simp only [add_plain] at hx211_0 | skip)
         (first | simp only [add_plain] at hx213_0 | skip)
         (first | simp only [add_plain] at hx214_0 | skip)
         (first | simp only [add_plain] at hx216_0 | skip)
         (first | simp only [add_plain] at hx218_0 | skip)
         (first | simp only [add_plain] at hx219_0 | skip)
         (first | simp only [add_plain] at hx220_0 | skip)
         obtain ⟨hx68_0, hf68_0⟩ := Kd.R_celln 0 HO_7.out (x8_2 : Int) p68 q68
         replace p68 := eq_true p68
         replace q68 := eq_true q68
         have HP73 := Kd.R_putn HO_7.out (x8_2 : Int) (((((rd x7_2 (ji60)) + (Go.bits .xor .u32 (Go.bits .xor .u32 t210 t212) ((rd x7_2 (ji50)) / 8))) + (rd x7_2 (ji63))) + (Go.bits .xor .u32 (Go.bits .xor .u32 t215 t217) ((rd x7_2 (ji55)) / 1024))) % 4294967296)
         rw [← Ny221.out] at HP73
         have HQ73 := Aside0.mk HP73
         clear HP73
         refine sK_ 16 (fun w' => w'.cell? ⟨go68, ((ji60)).toNat, none⟩ = some (.int .u32 (rd x7_2 (ji60))) ∧ w'.cell? ⟨go68, ((ji63)).toNat, none⟩ = some (.int .u32 (rd x7_2 (ji63)))) [15] Ja.tab15 Ja.bits15 ⟨hx219_0, hx220_0⟩ fun hHeld HT_ HW_ => ?_
         generalize w71.drew = w72 at HO_3 HO_4 HO_7 HB GG68 HQ73 hf68_0 hx209_0 hx211_0 hx213_0 hx214_0 hx216_0 hx218_0 hx219_0 hx220_0 hx68_0 hHeld ⊢
         refine runs_ [(0, some 119), (1, some 120), (2, some 121), (3, some 122), (5, some 124), (7, some 126), (8, some 127), (9, some 128), (12, some 131), (4, some 123), (6, some 125), (10, some 129), (11, some 130), (13, some 132), (14, some 133)] ?_
         (iterate 9 (refine pL_ ?_)); refine tL_ ?_; refine pL_ ?_; refine tL_ ?_; (iterate 3 (refine pL_ ?_)); refine runsE_ ?_
         refine lK_ 15 none fun K hK => ?_
         refine skip_set ⟨go68, (x8_2 : Int).toNat, none⟩ (.int .u32 (((((rd x7_2 (ji60)) + (Go.bits .xor .u32 (Go.bits .xor .u32 t210 t212) ((rd x7_2 (ji50)) / 8))) + (rd x7_2 (ji63))) + (Go.bits .xor .u32 (Go.bits .xor .u32 t215 t217) ((rd x7_2 (ji55)) / 1024))) % 4294967296)) (by rfl) rfl ?_ ?_
         ·first | (go_simp; done) | (go_simp; rfl) | (go_simp; (simp only [IntKind.wrap_u32, IntKind.wrap_u8]); refine congrArg (fun v_ => World.setCell _ _ (Value.int _ v_)) ?_; omega)
         refine hK.out _ _ ?_
         clear hK K
         refine dK_ ?_
         try go_wp2
         go_roundg k2
         case measure => have := HK1.out; have := HK2.out; omega
         case rel => exact ⟨(y221), (wrap64 (x8_2 + 1)), vq_, H', ⟨by have := HK1.out; have := HK2.out; omega⟩, ⟨by refine mv_ ?_; exact Kd.R_mono (Kd.R_far (p := ⟨go68, (x8_2 : Int).toNat, none⟩) (Kd.R_types HO_3.out GG68.out (by decide)) (fun _ hk => hk.2) (.int .u32 (((((rd x7_2 (ji60)) + (Go.bits .xor .u32 (Go.bits .xor .u32 t210 t212) ((rd x7_2 (ji50)) / 8))) + (rd x7_2 (ji63))) + (Go.bits .xor .u32 (Go.bits .xor .u32 t215 t217) ((rd x7_2 (ji55)) / 1024))) % 4294967296))) (fun _ hk => trivial)⟩, ⟨by refine mv_ ?_; exact Kd.R_mono (Kd.R_far (p := ⟨go68, (x8_2 : Int).toNat, none⟩) (Kd.R_mono HO_4.out (fun k_ hk => (⟨hk, fun e_ => hk (by rw [e_]; rfl)⟩ : _ ∧ k_ ≠ go68))) (fun _ hk => hk.2) (.int .u32 (((((rd x7_2 (ji60)) + (Go.bits .xor .u32 (Go.bits .xor .u32 t210 t212) ((rd x7_2 (ji50)) / 8))) + (rd x7_2 (ji63))) + (Go.bits .xor .u32 (Go.bits .xor .u32 t215 t217) ((rd x7_2 (ji55)) / 1024))) % 4294967296))) (fun _ hk => hk.1)⟩, ⟨by refine mv_ ?_; exact HQ73.out⟩, ⟨bs_ GB68.out⟩⟩
        ·rw [if_neg c49] at H
         exact absurd H (by simp)
        ⟩
        exact inferInstanceAs _
       ⟩
       exact inferInstanceAs _
      refine Nonempty.elim ?gc25n id
      letI i_ : type_of% ?gc25n := ⟨by
      rw [if_neg c25] at H
      have c25b0 : decide (x8_2 < 64) = false := decide_eq_false c25
      clear c25
      by_cases c74 : x3_1.length = 8
      ·rw [if_pos c74] at H
       have c74b0 := eq_true c74
       have c74b1 : decide (x3_1.length = 8) = true := decide_eq_true c74
       clear c74
       revert H; refine nd_ fun c75 c75b0 => nd_ fun c76 c76b0 => nd_ fun c77 c77b0 => nd_ fun c78 c78b0 => nd_ fun c79 c79b0 => nd_ fun c80 c80b0 => nd_ fun c81 c81b0 => nd_ fun c82 c82b0 H => ?_
       have c75b1 : decide (0 < x3_1.length) = true := decide_eq_true (by omega)
       have c76b1 : decide (1 < x3_1.length) = true := decide_eq_true (by omega)
       have c77b1 : decide (2 < x3_1.length) = true := decide_eq_true (by omega)
       have c78b1 : decide (3 < x3_1.length) = true := decide_eq_true (by omega)
       have c79b1 : decide (4 < x3_1.length) = true := decide_eq_true (by omega)
       have c80b1 : decide (5 < x3_1.length) = true := decide_eq_true (by omega)
       have c81b1 : decide (6 < x3_1.length) = true := decide_eq_true (by omega)
       have c82b1 : decide (7 < x3_1.length) = true := decide_eq_true (by omega)
       clear c75 c76 c77 c78 c79 c80 c81 c82
       have H' := Aside0.mk H
       clear H
       try go_wp2
       replace HB := Aside0.mk (below_drew1 HB.out)
       replace HO_7 := Aside0.mk (Kd.R_drew HO_7.out)
       replace HO_4 := Aside0.mk (Kd.R_drew HO_4.out)
       replace HO_3 := Aside0.mk (Kd.R_drew HO_3.out)
       have qa222 : ((0 : Int) < (8 : Int)) = True := qa_ x3_1 8
       have p222 : 0 ≤ (0 : Int) := (by omega)
       have q222 : 0 < (x3_1.length : Int) := ad_
       obtain ⟨ad222, e222, hx222_0⟩ := Kd.at_int (Kd.R_reads' HO_3.out).2.2 0 p222 q222
       obtain rfl : (⟨go5, 0, none⟩ : Addr) = ad222 := (by injection e222)
       (first | simp only [add_plain] at hx222_0 | simp only [add_at] at hx222_0 | simp only [Addr.add, Nat.zero_add] at hx222_0 | skip)
       have qi222 : (0 < x3_1.length) = True := eq_true (by omega)
       rw [show ((0 : Int)).toNat = 0 from rfl] at hx222_0
       replace p222 := eq_true p222
       replace q222 := eq_true q222
       have qa223 : ((1 : Int) < (8 : Int)) = True := qa_ x3_1 8
       have p223 : 0 ≤ (1 : Int) := (by omega)
       have q223 : 1 < (x3_1.length : Int) := ad_
       obtain ⟨ad223, e223, hx223_0⟩ := Kd.at_int (Kd.R_reads' HO_3.out).2.2 1 p223 q223
       obtain rfl : (⟨go5, 0, none⟩ : Addr) = ad223 := (by injection e223)
       (first | simp only [add_plain] at hx223_0 | simp only [add_at] at hx223_0 | simp only [Addr.add, Nat.zero_add] at hx223_0 | skip)
       have qi223 : (1 < x3_1.length) = True := eq_true (by omega)
       rw [show ((1 : Int)).toNat = 1 from rfl] at hx223_0
       replace p223 := eq_true p223
       replace q223 := eq_true q223
       have qa224 : ((2 : Int) < (8 : Int)) = True := qa_ x3_1 8
       have p224 : 0 ≤ (2 : Int) := (by omega)
       have q224 : 2 < (x3_1.length : Int) := ad_
       obtain ⟨ad224, e224, hx224_0⟩ := Kd.at_int (Kd.R_reads' HO_3.out).2.2 2 p224 q224
       obtain rfl : (⟨go5, 0, none⟩ : Addr) = ad224 := (by injection e224)
       (first | simp only [add_plain] at hx224_0 | simp only [add_at] at hx224_0 | simp only [Addr.add, Nat.zero_add] at hx224_0 | skip)
       have qi224 : (2 < x3_1.length) = True := eq_true (by omega)
       rw [show ((2 : Int)).toNat = 2 from rfl] at hx224_0
       replace p224 := eq_true p224
       replace q224 := eq_true q224
       have qa225 : ((3 : Int) < (8 : Int)) = True := qa_ x3_1 8
       have p225 : 0 ≤ (3 : Int) := (by omega)
       have q225 : 3 < (x3_1.length : Int) := ad_
       obtain ⟨ad225, e225, hx225_0⟩ := Kd.at_int (Kd.R_reads' HO_3.out).2.2 3 p225 q225
       obtain rfl : (⟨go5, 0, none⟩ : Addr) = ad225 := (by injection e225)
       (first | simp only [add_plain] at hx225_0 | simp only [add_at] at hx225_0 | simp only [Addr.add, Nat.zero_add] at hx225_0 | skip)
       have qi225 : (3 < x3_1.length) = True := eq_true (by omega)
       rw [show ((3 : Int)).toNat = 3 from rfl] at hx225_0
       replace p225 := eq_true p225
       replace q225 := eq_true q225
       have qa226 : ((4 : Int) < (8 : Int)) = True := qa_ x3_1 8
       have p226 : 0 ≤ (4 : Int) := (by omega)
       have q226 : 4 < (x3_1.length : Int) := ad_
       obtain ⟨ad226, e226, hx226_0⟩ := Kd.at_int (Kd.R_reads' HO_3.out).2.2 4 p226 q226
       obtain rfl : (⟨go5, 0, none⟩ : Addr) = ad226 := (by injection e226)
       (first | simp only [add_plain] at hx226_0 | simp only [add_at] at hx226_0 | simp only [Addr.add, Nat.zero_add] at hx226_0 | skip)
       have qi226 : (4 < x3_1.length) = True := eq_true (by omega)
       rw [show ((4 : Int)).toNat = 4 from rfl] at hx226_0
       replace p226 := eq_true p226
       replace q226 := eq_true q226
       have qa227 : ((5 : Int) < (8 : Int)) = True := qa_ x3_1 8
       have p227 : 0 ≤ (5 : Int) := (by omega)
       have q227 : 5 < (x3_1.length : Int) := ad_
       obtain ⟨ad227, e227, hx227_0⟩ := Kd.at_int (Kd.R_reads' HO_3.out).2.2 5 p227 q227
       obtain rfl : (⟨go5, 0, none⟩ : Addr) = ad227 := (by injection e227)
       (first | simp only [add_plain] at hx227_0 | simp only [add_at] at hx227_0 | simp only [Addr.add, Nat.zero_add] at hx227_0 | skip)
       have qi227 : (5 < x3_1.length) = True := eq_true (by omega)
       rw [show ((5 : Int)).toNat = 5 from rfl] at hx227_0
       replace p227 := eq_true p227
       replace q227 := eq_true q227
       have qa228 : ((6 : Int) < (8 : Int)) = True := qa_ x3_1 8
       have p228 : 0 ≤ (6 : Int) := (by omega)
       have q228 : 6 < (x3_1.length : Int) := ad_
       obtain ⟨ad228, e228, hx228_0⟩ := Kd.at_int (Kd.R_reads' HO_3.out).2.2 6 p228 q228
       obtain rfl : (⟨go5, 0, none⟩ : Addr) = ad228 := (by injection e228)
       (first | simp only [add_plain] at hx228_0 | simp only [add_at] at hx228_0 | simp only [Addr.add, Nat.zero_add] at hx228_0 | skip)
       have qi228 : (6 < x3_1.length) = True := eq_true (by omega)
       rw [show ((6 : Int)).toNat = 6 from rfl] at hx228_0
       replace p228 := eq_true p228
       replace q228 := eq_true q228
       have qa229 : ((7 : Int) < (8 : Int)) = True := qa_ x3_1 8
       have p229 : 0 ≤ (7 : Int) := (by omega)
       have q229 : 7 < (x3_1.length : Int) := ad_
       obtain ⟨ad229, e229, hx229_0⟩ := Kd.at_int (Kd.R_reads' HO_3.out).2.2 7 p229 q229
       obtain rfl : (⟨go5, 0, none⟩ : Addr) = ad229 := (by injection e229)
       (first | simp only [add_plain] at hx229_0 | simp only [add_at] at hx229_0 | simp only [Addr.add, Nat.zero_add] at hx229_0 | skip)
       have qi229 : (7 < x3_1.length) = True := eq_true (by omega)
       rw [show ((7 : Int)).toNat = 7 from rfl] at hx229_0
       replace p229 := eq_true p229
       replace q229 := eq_true q229
       refine sK_ 24 (fun w' => w'.cell? ⟨go5, 0, none⟩ = some (.int .u32 (rd x3_1 0)) ∧ w'.cell? ⟨go5, 1, none⟩ = some (.int .u32 (rd x3_1 1)) ∧ w'.cell? ⟨go5, 2, none⟩ = some (.int .u32 (rd x3_1 2)) ∧ w'.cell? ⟨go5, 3, none⟩ = some (.int .u32 (rd x3_1 3)) ∧ w'.cell? ⟨go5, 4, none⟩ = some (.int .u32 (rd x3_1 4)) ∧ w'.cell? ⟨go5, 5, none⟩ = some (.int .u32 (rd x3_1 5)) ∧ w'.cell? ⟨go5, 6, none⟩ = some (.int .u32 (rd x3_1 6)) ∧ w'.cell? ⟨go5, 7, none⟩ = some (.int .u32 (rd x3_1 7))) [] Ja.tab16 Ja.bits16 ⟨hx222_0, hx223_0, hx224_0, hx225_0, hx226_0, hx227_0, hx228_0, hx229_0⟩ fun hHeld HT_ HW_ => ?_
       generalize wr.drew = w83 at HO_3 HO_4 HO_7 HB hx222_0 hx223_0 hx224_0 hx225_0 hx226_0 hx227_0 hx228_0 hx229_0 hHeld ⊢
       refine runs_ [(0, some 134), (2, some 136), (4, some 138), (6, some 140), (8, some 142), (10, some 144), (12, some 146), (14, some 148), (1, some 135), (16, some 11), (3, some 137), (17, some 12), (5, some 139), (18, some 13), (7, some 141), (19, some 14), (9, some 143), (20, some 15), (11, some 145), (21, some 16), (13, some 147), (22, some 17), (15, some 149), (23, some 18)] ?_
       (iterate 8 (refine pL_ ?_)); (iterate 8 (refine tL_ ?_; refine pL_ ?_)); refine runsE_ ?_
       refine dK_ ?_
       try go_wp2
       go_loopg [11, 12, 13, 14, 15, 16, 17, 18, 19] k2 (fun kq v11 v12 v13 v14 v15 v16 v17 v18 v19 w' => ∃ (x11_3 : Int) (x12_3 : Int) (x13_3 : Int) (x14_3 : Int) (x15_3 : Int) (x16_3 : Int) (x17_3 : Int) (x18_3 : Int) (x19_3 : Int), v11 = .int .u32 x11_3 ∧ v12 = .int .u32 x12_3 ∧ v13 = .int .u32 x13_3 ∧ v14 = .int .u32 x14_3 ∧ v15 = .int .u32 x15_3 ∧ v16 = .int .u32 x16_3 ∧ v17 = .int .u32 x17_3 ∧ v18 = .int .u32 x18_3 ∧ v19 = .int .i64 x19_3 ∧ Aside0 (Ja.l2 kq x3_1 x4_1 t204 x6_1 x7_2 x11_3 x12_3 x13_3 x14_3 x15_3 x16_3 x17_3 x18_3 x19_3 = some r) ∧ Aside0 (kq ≤ k2) ∧ Aside0 (Kd.R (Kd.int .u32) 130 w' w.heap.size (fun _ => True) (.slice (some ⟨go5, 0, none⟩) x3_1.length co5) x3_1) ∧ Aside0 (Kd.R (Kd.int .u32) 132 w' w.heap.size (fun k_ => some k_ ≠ (v206 : Value).ownBlock) (.slice (some ⟨go9, 0, none⟩) x4_1.length co9) x4_1) ∧ Aside0 (Kd.R (Kd.int .u32) 132 w' w.heap.size (fun k_ => some k_ ≠ ((.slice (some ⟨go9, 0, none⟩) x4_1.length co9) : Value).ownBlock) v206 x7_2) ∧ Aside0 (Below w.heap.size w w'))
       case atStart => exact ⟨(rd x3_1 0), (rd x3_1 1), (rd x3_1 2), (rd x3_1 3), (rd x3_1 4), (rd x3_1 5), (rd x3_1 6), (rd x3_1 7), (0), vq_, vq_, vq_, vq_, vq_, vq_, vq_, vq_, vq_, H', ⟨Nat.le_refl _⟩, ⟨by refine mv_ ?_; exact HO_3.out⟩, ⟨by refine mv_ ?_; exact HO_4.out⟩, ⟨by refine mv_ ?_; exact HO_7.out⟩, ⟨bl_⟩⟩
       case round =>
        clear H'
        clear c25b0 c74b0 c74b1 c75b0 c75b1 c76b0 c76b1 c77b0 c77b1 c78b0 c78b1 c79b0 c79b1 c80b0 c80b1 c81b0 c81b1 c82b0 c82b1 hx222_0 hx223_0 hx224_0 hx225_0 hx226_0 hx227_0 hx228_0 hx229_0 p222 p223 p224 p225 p226 p227 p228 p229 q222 q223 q224 q225 q226 q227 q228 q229
        obtain ⟨x11_3, x12_3, x13_3, x14_3, x15_3, x16_3, x17_3, x18_3, x19_3, rfl, rfl, rfl, rfl, rfl, rfl, rfl, rfl, rfl, HA, HK3, HO_3, HO_4, HO_7, HB⟩ := hrel
        cases gk with
        | zero => exact absurd HA.out (by simp [Ja.l2])
        | succ k3 =>
         have H := HA.out
         clear HA
         simp only [Ja.l2] at H
         by_cases c84 : x19_3 < 64
         ·refine Nonempty.elim ?gc84p id
          letI i_ : type_of% ?gc84p := ⟨by
          rw [if_pos c84] at H
          have c84b0 : decide (x19_3 < 64) = true := decide_eq_true c84
          clear c84
          revert H; refine oa_ fun t230 A85 => oa_ fun t231 A86 => oa_ fun t232 A87 H => ?_
          by_cases c88 : x4_1.length = 64
          ·rw [if_pos c88] at H
           have c88b0 := eq_true c88
           have c88b1 : decide (x4_1.length = 64) = true := decide_eq_true c88
           clear c88
           revert H; refine nd_ fun c89 c89b0 => nd_ fun c90 c90b0 => ne_ fun c91 c91b0 c91b1 => nd_ fun c92 c92b0 => oa_ fun t235 A93 => oa_ fun t236 A94 => oa_ fun t237 A95 H => ?_
           clear c89 c90 c91 c92
           have H' := Aside0.mk H
           clear H
           try go_wp2_with (first | ((with_reducible refine gate_callee (f := 94) rfl ?_); refine gL_ 155 Tryz.func94 #[.int .u32 x15_3, .int .u32 6] ?_; (with_reducible refine (Jv.calls x15_3 6 t230 _ A85.out).mono ?_); rintro e w' ⟨rfl, ⟨nd, rfl⟩⟩; refine ⟨_, rfl, ?_⟩) | ((with_reducible refine gate_callee (f := 94) rfl ?_); refine gL_ 157 Tryz.func94 #[.int .u32 x15_3, .int .u32 11] ?_; (with_reducible refine (Jv.calls x15_3 11 t231 _ A86.out).mono ?_); rintro e w' ⟨rfl, ⟨nd, rfl⟩⟩; refine ⟨_, rfl, ?_⟩) | ((with_reducible refine gate_callee (f := 94) rfl ?_); refine gL_ 160 Tryz.func94 #[.int .u32 x15_3, .int .u32 25] ?_; (with_reducible refine (Jv.calls x15_3 25 t232 _ A87.out).mono ?_); rintro e w' ⟨rfl, ⟨nd, rfl⟩⟩; refine ⟨_, rfl, ?_⟩))
           (rw [drewN_self wr]; generalize hq_ : World.drewN wr _ = wr; have n0_ : Aside0 (Kd.R (Kd.int .u32) 130 wr w.heap.size (fun _ => True) (.slice (some ⟨go5, 0, none⟩) x3_1.length co5) x3_1) := ⟨by rw [← hq_]; exact (mv_ HO_3.out)⟩; have n1_ : Aside0 (Kd.R (Kd.int .u32) 132 wr w.heap.size (fun k_ => some k_ ≠ (v206 : Value).ownBlock) (.slice (some ⟨go9, 0, none⟩) x4_1.length co9) x4_1) := ⟨by rw [← hq_]; exact (mv_ HO_4.out)⟩; have n2_ : Aside0 (Kd.R (Kd.int .u32) 132 wr w.heap.size (fun k_ => some k_ ≠ (.slice (some ⟨go9, 0, none⟩) x4_1.length co9 : Value).ownBlock) v206 x7_2) := ⟨by rw [← hq_]; exact (mv_ HO_7.out)⟩; have n3_ : Aside0 (Below w.heap.size w wr) := ⟨by rw [← hq_]; exact bl_⟩; clear HO_3 HO_4 HO_7 HB hq_; have HO_3 := n0_; have HO_4 := n1_; have HO_7 := n2_; have HB := n3_; clear n0_ n1_ n2_ n3_)
           replace HB := Aside0.mk (below_drew1 HB.out)
           replace HO_7 := Aside0.mk (Kd.R_drew HO_7.out)
           replace HO_4 := Aside0.mk (Kd.R_drew HO_4.out)
           replace HO_3 := Aside0.mk (Kd.R_drew HO_3.out)
           have qa233 : ((x19_3 : Int) < (64 : Int)) = True := qa_ x4_1 64
           have p233 : 0 ≤ (x19_3 : Int) := ad_
           have q233 : x19_3 < (x4_1.length : Int) := ad_
           obtain ⟨ad233, e233, hx233_0⟩ := Kd.at_int (Kd.R_reads' HO_4.out).2.2 x19_3 p233 q233
           obtain rfl : (⟨go9, 0, none⟩ : Addr) = ad233 := (by injection e233)
           (first | simp only [add_plain] at hx233_0 | simp only [add_at] at hx233_0 | simp only [Addr.add, Nat.zero_add] at hx233_0 | skip)
           replace p233 := eq_true p233
           replace q233 := eq_true q233
           obtain ⟨Ao97, co97, eo97⟩ := Kd.R_slice HO_7.out
           (first | subst eo97 | (injection eo97 with f1_ f2_ f3_; have f4_ := f1_.symm; have f5_ := f3_.symm; clear f1_ f2_ f3_; subst f4_; subst f5_))
           have qa234 : ((x19_3 : Int) < (64 : Int)) = True := qa_ x7_2 64
           have p234 : 0 ≤ (x19_3 : Int) := ad_
           have q234 : x19_3 < (x7_2.length : Int) := ad_
           obtain ⟨ad234, e234, hx234_0⟩ := Kd.at_int (Kd.R_reads' HO_7.out).2.2 x19_3 p234 q234
           cases e234
           replace p234 := eq_true p234
           replace q234 := eq_true q234
           refine sK_ 14 (fun w' => w'.cell? ⟨go9, (x19_3).toNat, none⟩ = some (.int .u32 (rd x4_1 x19_3)) ∧ w'.cell? (ad234.add (x19_3).toNat) = some (.int .u32 (rd x7_2 x19_3))) [] Ja.tab22 Ja.bits22 ⟨hx233_0, hx234_0⟩ fun hHeld HT_ HW_ => ?_
           generalize wr.drew = w96 at HO_3 HO_4 HO_7 HB hx233_0 hx234_0 hHeld ⊢
           refine runs_ [(0, some 170), (1, some 171), (2, some 172), (3, some 173), (4, some 174), (5, some 175), (6, some 176), (9, some 179), (10, some 180), (7, some 177), (8, some 178), (11, some 181), (12, some 182), (13, some 22)] ?_
           (iterate 9 (refine pL_ ?_)); refine tL_ ?_; refine pL_ ?_; refine tL_ ?_; (iterate 2 (refine pL_ ?_)); refine runsE_ ?_
           refine dK_ ?_
           try go_wp2_with (first | ((with_reducible refine gate_callee (f := 94) rfl ?_); refine gL_ 184 Tryz.func94 #[.int .u32 x11_3, .int .u32 2] ?_; (with_reducible refine (Jv.calls x11_3 2 t235 _ A93.out).mono ?_); rintro e w' ⟨rfl, ⟨nd, rfl⟩⟩; refine ⟨_, rfl, ?_⟩) | ((with_reducible refine gate_callee (f := 94) rfl ?_); refine gL_ 186 Tryz.func94 #[.int .u32 x11_3, .int .u32 13] ?_; (with_reducible refine (Jv.calls x11_3 13 t236 _ A94.out).mono ?_); rintro e w' ⟨rfl, ⟨nd, rfl⟩⟩; refine ⟨_, rfl, ?_⟩) | ((with_reducible refine gate_callee (f := 94) rfl ?_); refine gL_ 189 Tryz.func94 #[.int .u32 x11_3, .int .u32 22] ?_; (with_reducible refine (Jv.calls x11_3 22 t237 _ A95.out).mono ?_); rintro e w' ⟨rfl, ⟨nd, rfl⟩⟩; refine ⟨_, rfl, ?_⟩))
           go_roundg k3
           case measure => have := HK1.out; have := HK2.out; have := HK3.out; omega
           case rel => exact ⟨((((((x18_3 + (Go.bits .xor .u32 (Go.bits .xor .u32 t230 t231) t232)) + (Go.bits .xor .u32 (Go.bits .and .u32 x15_3 x16_3) (Go.bits .and .u32 (Go.bits .xor .u32 4294967295 x15_3) x17_3))) + (rd x4_1 x19_3)) + (rd x7_2 x19_3)) + ((Go.bits .xor .u32 (Go.bits .xor .u32 t235 t236) t237) + (Go.bits .xor .u32 (Go.bits .xor .u32 (Go.bits .and .u32 x11_3 x12_3) (Go.bits .and .u32 x11_3 x13_3)) (Go.bits .and .u32 x12_3 x13_3)))) % 4294967296), (x11_3), (x12_3), (x13_3), ((x14_3 + ((((x18_3 + (Go.bits .xor .u32 (Go.bits .xor .u32 t230 t231) t232)) + (Go.bits .xor .u32 (Go.bits .and .u32 x15_3 x16_3) (Go.bits .and .u32 (Go.bits .xor .u32 4294967295 x15_3) x17_3))) + (rd x4_1 x19_3)) + (rd x7_2 x19_3))) % 4294967296), (x15_3), (x16_3), (x17_3), (wrap64 (x19_3 + 1)), vq_, vq_, vq_, vq_, vq_, vq_, vq_, vq_, vq_, H', ⟨by have := HK1.out; have := HK2.out; have := HK3.out; omega⟩, ⟨by refine mv_ ?_; exact HO_3.out⟩, ⟨by refine mv_ ?_; exact HO_4.out⟩, ⟨by refine mv_ ?_; exact HO_7.out⟩, ⟨bl_⟩⟩
          ·rw [if_neg c88] at H
           exact absurd H (by simp)
          ⟩
          exact inferInstanceAs _
         refine Nonempty.elim ?gc84n id
         letI i_ : type_of% ?gc84n := ⟨by
         rw [if_neg c84] at H
         have c84b0 : decide (x19_3 < 64) = false := decide_eq_false c84
         clear c84
         revert H; refine oy_ fun y238 Ny238 H => ?_
         by_cases c98 : y238.length = 8
         ·rw [if_pos c98] at H
          have c98b0 := eq_true c98
          have c98b1 : decide (y238.length = 8) = true := decide_eq_true c98
          clear c98
          revert H; refine nd_ fun c99 c99b0 H => ?_
          have c99b1 : decide (0 < y238.length) = true := decide_eq_true (by omega)
          clear c99
          generalize e_ : ([x11_3, x12_3, x13_3, x14_3, x15_3, x16_3, x17_3, x18_3] : List Int) = y241 at H
          have Ny241 := Aside0.mk e_.symm
          clear e_
          have H' := Aside0.mk H
          clear H
          go_wp2_with (first | ((with_reducible refine gate_dst (N := 26) rfl ?_); refine R_arr (Value.int .u32) (fun _ => rfl) _ 130 ?hg (N := 26) ?hd (List.replicate 8 0) ?hr (Below.refl _ _) (Nat.le_refl _) (by decide) ?_; (case hd => rfl); (case hg => rfl); (case hr => exact gr_); intro v239 w101 ho102 hb hg_ hnew_; clear hg_ hnew_; (first | rw [← Ny238.out] at ho102 | (simp only [Int.reduceToNat] at ho102; rw [← Ny238.out] at ho102)); have HO240 := Aside0.mk (Kd.R_lower (Kd.R_new' ho102 (Kd.R_lt (mv_ HO_3.out))) (below_size bl_)); replace HB := Aside0.mk (below_step bl_ hb); replace HO_7 := Aside0.mk (Kd.R_below (mv_ HO_7.out) hb); replace HO_4 := Aside0.mk (Kd.R_below (mv_ HO_4.out) hb); replace HO_3 := Aside0.mk (Kd.R_elder' (mv_ HO_3.out) (Kd.R_base ho102) hb); clear hb ho102; have qa100 : ((0 : Int) < (8 : Int)) = True := qa_ y238 8; have p100 : 0 ≤ (0 : Int) := (by omega); have q100 : (0 : Int) < ((y238.length : Int) : Int) := ad_; have qi100 : (0 < y238.length) = True := eq_true (by omega); obtain ⟨go100, co100, eo100, gb100, gl100, cl100, HG100⟩ := Kd.R_form HO240.out (by omega); (first | cases eo100 | (injection eo100 with ea_ en_ ec_; (first | subst ea_ | (injection ea_ with ea_; subst ea_)); subst ec_; clear en_)); have GB100 := Aside0.mk gb100; have GG100 := Aside0.mk HG100; clear gb100 gl100 HG100; obtain ⟨hx100_0, hf100_0⟩ := Kd.R_celln 0 HO240.out (0 : Int) p100 q100; (rw [show ((0 : Int)).toNat = 0 from rfl] at hx100_0); (rw [show ((0 : Int)).toNat = 0 from rfl] at hf100_0); replace p100 := eq_true p100; replace q100 := eq_true q100; have n_ := Aside0.mk (Kd.R_mono (ok' := (fun k_ => some k_ ≠ (.slice (some ⟨go5, 0, none⟩) x3_1.length co5 : Value).ownBlock)) HO240.out (fun k_ hk => hk.2)); clear HO240; have HO240 := n_; clear n_; have HP103 := R_whole (ys := [x11_3, x12_3, x13_3, x14_3, x15_3, x16_3, x17_3, x18_3]) HO240.out (by have e_ : y238.length = 8 := ad_; have e2_ := (Kd.R_reads' HO240.out).1; first | (rw [e_]; rfl) | (simp only [List.length_cons, List.length_nil]; omega))) | ((with_reducible refine gate_store (t := 130) (p := 26) rfl ?_); refine store_event (t := 130) (p := 26) (v := ?vo_w104) (w1 := (w101.setCells go100 0 (encs (Value.int .u32) [x11_3, x12_3, x13_3, x14_3, x15_3, x16_3, x17_3, x18_3]))) ?hg ?ho ?hn ?hr ?_; (case ho => rfl); (case hg => rfl); (case hn => rfl); (case hr => exact whole_run (ys := [x11_3, x12_3, x13_3, x14_3, x15_3, x16_3, x17_3, x18_3]) rfl rfl rfl (by kernel_rfl) HO240.out (by have e_ : y238.length = 8 := ad_; have e2_ := (Kd.R_reads' HO240.out).1; first | (rw [e_]; rfl) | (simp only [List.length_cons, List.length_nil]; omega))); intro w104 hw; have hg : w101.grownBy w104 (some go100) := (by rw [hw]; exact HP103.2); have hp_ : Kd.R (Kd.int .u32) 130 w104 w.heap.size (fun k_ => some k_ ≠ (.slice (some ⟨go5, 0, none⟩) x3_1.length co5 : Value).ownBlock) (.slice (some ⟨go100, 0, none⟩) y238.length co100) y241 := (by rw [hw, Ny241.out]; exact HP103.1); clear HP103; replace HB := Aside0.mk ((Below.grown HB.out hg (below_size HB.out) (fun k_ e_ => (Option.some.inj e_) ▸ GB100.out) : Below w.heap.size w w104)); replace HO_7 := Aside0.mk (Kd.R_over' (v := (.slice (some ⟨go100, 0, none⟩) y238.length co100)) (mv_ HO_7.out) (Kd.R_typed HO240.out) (by decide) hg); replace HO_4 := Aside0.mk (Kd.R_over' (v := (.slice (some ⟨go100, 0, none⟩) y238.length co100)) (mv_ HO_4.out) (Kd.R_typed HO240.out) (by decide) hg); replace HO240 := Aside0.mk (hp_); replace HO_3 := Aside0.mk (Kd.R_after (v := (.slice (some ⟨go100, 0, none⟩) y238.length co100)) (v1 := (.slice (some ⟨go100, 0, none⟩) y238.length co100)) (ok := (fun _ => True)) (mv_ HO_3.out) hg (.inl rfl)); clear hg hw hp_))
          go_loopg [27] k3 (fun kq v27 w' => ∃ (x3_4 : List Int) (x27_4 : Int), v27 = .int .i64 x27_4 ∧ Aside0 (Ja.l3 kq x3_4 x4_1 t204 x6_1 y241 x27_4 = some r) ∧ Aside0 (kq ≤ k3) ∧ Aside0 (Kd.R (Kd.int .u32) 130 w' w.heap.size (fun k_ => some k_ ≠ ((.slice (some ⟨go100, 0, none⟩) y238.length co100) : Value).ownBlock) (.slice (some ⟨go5, 0, none⟩) x3_1.length co5) x3_4) ∧ Aside0 (Kd.R (Kd.int .u32) 132 w' w.heap.size (fun _ => True) (.slice (some ⟨go9, 0, none⟩) x4_1.length co9) x4_1) ∧ Aside0 (Kd.R (Kd.int .u32) 130 w' w.heap.size (fun k_ => some k_ ≠ ((.slice (some ⟨go5, 0, none⟩) x3_1.length co5) : Value).ownBlock) (.slice (some ⟨go100, 0, none⟩) y238.length co100) y241) ∧ Aside0 (Below w.heap.size w w'))
          case atStart => exact ⟨(x3_1), (0), vq_, H', ⟨Nat.le_refl _⟩, ⟨by refine mv_ ?_; exact Kd.R_mono HO_3.out (fun _ hk => hk.2)⟩, ⟨by refine mv_ ?_; exact Kd.R_mono HO_4.out (fun _ hk => trivial)⟩, ⟨by refine mv_ ?_; exact HO240.out⟩, ⟨bl_⟩⟩
          case round =>
           clear H'
           clear c84b0 c98b0 c98b1 c99b0 c99b1 p100 q100 qi100 hx100_0
           obtain ⟨x3_4, x27_4, rfl, HA, HK4, HO_3, HO_4, HO_26, HB⟩ := hrel
           have hl3_4 := (Kd.R_reads' HO_3.out).1
           rw [hl3_4] at HO_3
           simp only [hl3_4]
           simp only [hl3_4] at HO_26
           have hl26_4 := (Kd.R_reads' HO_26.out).1
           rw [hl26_4] at HO_26
           simp only [hl26_4]
           simp only [hl26_4] at HO_3
           cases gk with
           | zero => exact absurd HA.out (by simp [Ja.l3])
           | succ k4 =>
            have H := HA.out
            clear HA
            simp only [Ja.l3] at H
            by_cases c105 : x27_4 < 8
            ·refine Nonempty.elim ?gc105p id
             letI i_ : type_of% ?gc105p := ⟨by
             rw [if_pos c105] at H
             have c105b0 : decide (x27_4 < 8) = true := decide_eq_true c105
             clear c105
             by_cases c106 : x3_4.length = 8
             ·rw [if_pos c106] at H
              have c106b0 := eq_true c106
              have c106b1 : decide (x3_4.length = 8) = true := decide_eq_true c106
              clear c106
              revert H; refine nd_ fun c107 c107b0 => nd_ fun c108 c108b0 => ne_ fun c109 c109b0 c109b1 => nd_ fun c110 c110b0 H => ?_
              clear c107 c108 c109 c110
              generalize e_ : (x3_4.set (x27_4 : Int).toNat (((rd x3_4 x27_4) + (rd y241 x27_4)) % 4294967296) : List Int) = y244 at H
              have Ny244 := Aside0.mk e_.symm
              clear e_
              have H' := Aside0.mk H
              clear H
              try go_wp2
              replace HB := Aside0.mk (below_drew1 HB.out)
              replace HO_26 := Aside0.mk (Kd.R_drew HO_26.out)
              replace HO_4 := Aside0.mk (Kd.R_drew HO_4.out)
              replace HO_3 := Aside0.mk (Kd.R_drew HO_3.out)
              have qa242 : ((x27_4 : Int) < (8 : Int)) = True := qa_ x3_4 8
              have p242 : 0 ≤ (x27_4 : Int) := ad_
              have q242 : x27_4 < (x3_4.length : Int) := ad_
              obtain ⟨ad242, e242, hx242_0⟩ := Kd.at_int (Kd.R_reads' HO_3.out).2.2 x27_4 p242 q242
              obtain rfl : (⟨go5, 0, none⟩ : Addr) = ad242 := (by injection e242)
              (first | simp only [add_plain] at hx242_0 | simp only [add_at] at hx242_0 | simp only [Addr.add, Nat.zero_add] at hx242_0 | skip)
              replace p242 := eq_true p242
              replace q242 := eq_true q242
              have qa243 : ((x27_4 : Int) < (8 : Int)) = True := qa_ y241 8
              have p243 : 0 ≤ (x27_4 : Int) := ad_
              have q243 : x27_4 < (y241.length : Int) := ad_
              obtain ⟨ad243, e243, hx243_0⟩ := Kd.at_int (Kd.R_reads' HO_26.out).2.2 x27_4 p243 q243
              obtain rfl : (⟨go100, 0, none⟩ : Addr) = ad243 := (by injection e243)
              (first | simp only [add_plain] at hx243_0 | simp only [add_at] at hx243_0 | simp only [Addr.add, Nat.zero_add] at hx243_0 | skip)
              replace p243 := eq_true p243
              replace q243 := eq_true q243
              have qa111 : ((x27_4 : Int) < (8 : Int)) = True := qa_ x3_4 8
              have p111 : 0 ≤ (x27_4 : Int) := ad_
              have q111 : (x27_4 : Int) < ((x3_4.length : Int) : Int) := ad_
              obtain ⟨hx111_0, hf111_0⟩ := Kd.R_celln 0 HO_3.out (x27_4 : Int) p111 q111
              replace p111 := eq_true p111
              replace q111 := eq_true q111
              have HP113 := Kd.R_putn HO_3.out (x27_4 : Int) (((rd x3_4 x27_4) + (rd y241 x27_4)) % 4294967296)
              rw [← Ny244.out] at HP113
              have HQ113 := Aside0.mk HP113
              clear HP113
              refine sK_ 10 (fun w' => w'.cell? ⟨go5, (x27_4).toNat, none⟩ = some (.int .u32 (rd x3_4 x27_4)) ∧ w'.cell? ⟨go100, (x27_4).toNat, none⟩ = some (.int .u32 (rd y241 x27_4))) [9] Ja.tab38 Ja.bits38 ⟨hx242_0, hx243_0⟩ fun hHeld HT_ HW_ => ?_
              generalize wr.drew = w112 at HO_3 HO_4 HO_26 HB HQ113 hf111_0 hx111_0 hx242_0 hx243_0 hHeld ⊢
              refine runs_ [(0, some 230), (1, some 231), (2, some 232), (4, some 234), (5, some 235), (3, some 233), (6, some 236), (7, some 237), (8, some 238)] ?_
              (iterate 5 (refine pL_ ?_)); (iterate 2 (refine tL_ ?_)); (iterate 2 (refine pL_ ?_)); refine runsE_ ?_
              refine lK_ 9 none fun K hK => ?_
              refine skip_set ⟨go5, (x27_4 : Int).toNat, none⟩ (.int .u32 (((rd x3_4 x27_4) + (rd y241 x27_4)) % 4294967296)) (by rfl) rfl ?_ ?_
              ·first | (go_simp; done) | (go_simp; rfl) | (go_simp; (try simp only [IntKind.wrap_u32, IntKind.wrap_u8]); refine congrArg (fun v_ => World.setCell _ _ (Value.int _ v_)) ?_; omega)
              refine hK.out _ _ ?_
              clear hK K
              refine dK_ ?_
              try go_wp2
              simp only [← hl3_4, ← hl26_4]
              go_roundg k4
              case measure => have := HK1.out; have := HK2.out; have := HK3.out; have := HK4.out; omega
              case rel => exact ⟨(y244), (wrap64 (x27_4 + 1)), vq_, H', ⟨by have := HK1.out; have := HK2.out; have := HK3.out; have := HK4.out; omega⟩, ⟨by (simp only [hl3_4]); (simp only [hl26_4]); refine mv_ ?_; exact HQ113.out⟩, ⟨by refine mv_ ?_; exact Kd.R_mono (Kd.R_far (p := ⟨go5, (x27_4 : Int).toNat, none⟩) (Kd.R_types HO_4.out (Kd.R_typed HO_3.out _ rfl).choose_spec (by decide)) (fun _ hk => hk.2) (.int .u32 (((rd x3_4 x27_4) + (rd y241 x27_4)) % 4294967296))) (fun _ hk => trivial)⟩, ⟨by (simp only [hl3_4]); (simp only [hl26_4]); refine mv_ ?_; exact Kd.R_mono (Kd.R_far (p := ⟨go5, (x27_4 : Int).toNat, none⟩) (Kd.R_mono HO_26.out (fun k_ hk => (⟨hk, fun e_ => hk (by rw [e_]; rfl)⟩ : _ ∧ k_ ≠ go5))) (fun _ hk => hk.2) (.int .u32 (((rd x3_4 x27_4) + (rd y241 x27_4)) % 4294967296))) (fun _ hk => hk.1)⟩, ⟨bs_ GB5.out⟩⟩
             ·rw [if_neg c106] at H
              exact absurd H (by simp)
             ⟩
             exact inferInstanceAs _
            rw [if_neg c105] at H
            have c105b0 : decide (x27_4 < 8) = false := decide_eq_false c105
            clear c105
            have H' := Aside0.mk H
            clear H
            go_wp2
            simp only [← hl3_1, ← hl4_1, ← hl3_4, ← hl26_4]
            go_roundg k4
            case measure => have := HK1.out; have := HK2.out; have := HK3.out; have := HK4.out; omega
            case rel => exact ⟨(x3_4), (x4_1), (wrap64 (x6_1 + 64)), vq_, H', ⟨by have := HK1.out; have := HK2.out; have := HK3.out; have := HK4.out; omega⟩, ⟨by (simp only [hl3_1]); (simp only [hl3_4]); refine mv_ ?_; exact Kd.R_mono HO_3.out (fun _ hk => trivial)⟩, ⟨by (simp only [hl4_1]); refine mv_ ?_; exact HO_4.out⟩, ⟨bl_⟩⟩
         ·rw [if_neg c98] at H
          exact absurd H (by simp)
         ⟩
         exact inferInstanceAs _
      ·rw [if_neg c74] at H
       exact absurd H (by simp)
      ⟩
      exact inferInstanceAs _
    ⟩
    exact inferInstanceAs _
   refine Nonempty.elim ?gc22n id
   letI i_ : type_of% ?gc22n := ⟨by
   rw [if_neg c22] at H
   have c22b0 : decide (x6_1 < (t204.size : Int)) = false := decide_eq_false c22
   clear c22
   have H' := Aside0.mk H
   clear H
   go_wp2
   go_loopg [28, 29] k1 (fun kq v28 v29 w' => ∃ (x28_2 : List Int) (x29_2 : Int), v29 = .int .i64 x29_2 ∧ Aside0 (Ja.l4 kq x3_1 x28_2 x29_2 = some r) ∧ Aside0 (kq ≤ k1) ∧ Aside0 (Kd.R (Kd.int .u32) 130 w' w.heap.size (fun _ => True) (.slice (some ⟨go5, 0, none⟩) x3_1.length co5) x3_1) ∧ Aside0 (Kd.R (Kd.int .u8) 5 w' w.heap.size (fun _ => True) v28 x28_2) ∧ Aside0 (Below w.heap.size w w'))
   case atStart => exact ⟨(([] : List Int)), (0), vq_, H', ⟨Nat.le_refl _⟩, ⟨by refine mv_ ?_; exact HO_3.out⟩, ⟨by first | exact Kd.R_nil _ _ _ _ _ | exact Kd.N_nil _ _ _ _ _ | exact Kd.V_nil _ _ _ _ _ | exact Kd.Q_nil _ _ _ _ _ | exact Kd.S_nil _ _ _ _ _⟩, ⟨bl_⟩⟩
   case round =>
    clear H'
    clear c22b0
    obtain ⟨x28_2, x29_2, rfl, HA, HK2, HO_3, HO_28, HB⟩ := hrel
    cases gk with
    | zero => exact absurd HA.out (by simp [Ja.l4])
    | succ k2 =>
     have H := HA.out
     clear HA
     simp only [Ja.l4] at H
     by_cases c114 : x29_2 < 8
     ·refine Nonempty.elim ?gc114p id
      letI i_ : type_of% ?gc114p := ⟨by
      rw [if_pos c114] at H
      have c114b0 : decide (x29_2 < 8) = true := decide_eq_true c114
      clear c114
      by_cases c115 : x3_1.length = 8
      ·rw [if_pos c115] at H
       have c115b0 := eq_true c115
       have c115b1 : decide (x3_1.length = 8) = true := decide_eq_true c115
       clear c115
       revert H; refine nd_ fun c116 c116b0 => nd_ fun c117 c117b0 => oy_ fun y249 Ny249 => nc_ fun c118 H => ?_
       have LMc118 := Aside0.mk c118
       clear c116 c117 c118
       generalize e_ : (x28_2 ++ y249 : List Int) = y252 at H
       have Ny252 := Aside0.mk e_.symm
       clear e_
       have H' := Aside0.mk H
       clear H
       try go_wp2
       replace HB := Aside0.mk (below_drew1 HB.out)
       replace HO_28 := Aside0.mk (Kd.R_drew HO_28.out)
       replace HO_3 := Aside0.mk (Kd.R_drew HO_3.out)
       have qa245 : ((x29_2 : Int) < (8 : Int)) = True := qa_ x3_1 8
       have p245 : 0 ≤ (x29_2 : Int) := ad_
       have q245 : x29_2 < (x3_1.length : Int) := ad_
       obtain ⟨ad245, e245, hx245_0⟩ := Kd.at_int (Kd.R_reads' HO_3.out).2.2 x29_2 p245 q245
       obtain rfl : (⟨go5, 0, none⟩ : Addr) = ad245 := (by injection e245)
       (first | simp only [add_plain] at hx245_0 | simp only [add_at] at hx245_0 | simp only [Addr.add, Nat.zero_add] at hx245_0 | skip)
       replace p245 := eq_true p245
       replace q245 := eq_true q245
       have qa246 : ((x29_2 : Int) < (8 : Int)) = True := qa_ x3_1 8
       have p246 : 0 ≤ (x29_2 : Int) := ad_
       have q246 : x29_2 < (x3_1.length : Int) := ad_
       obtain ⟨ad246, e246, hx246_0⟩ := Kd.at_int (Kd.R_reads' HO_3.out).2.2 x29_2 p246 q246
       obtain rfl : (⟨go5, 0, none⟩ : Addr) = ad246 := (by injection e246)
       (first | simp only [add_plain] at hx246_0 | simp only [add_at] at hx246_0 | simp only [Addr.add, Nat.zero_add] at hx246_0 | skip)
       replace p246 := eq_true p246
       replace q246 := eq_true q246
       have qa247 : ((x29_2 : Int) < (8 : Int)) = True := qa_ x3_1 8
       have p247 : 0 ≤ (x29_2 : Int) := ad_
       have q247 : x29_2 < (x3_1.length : Int) := ad_
       obtain ⟨ad247, e247, hx247_0⟩ := Kd.at_int (Kd.R_reads' HO_3.out).2.2 x29_2 p247 q247
       obtain rfl : (⟨go5, 0, none⟩ : Addr) = ad247 := (by injection e247)
       (first | simp only [add_plain] at hx247_0 | simp only [add_at] at hx247_0 | simp only [Addr.add, Nat.zero_add] at hx247_0 | skip)
       replace p247 := eq_true p247
       replace q247 := eq_true q247
       have qa248 : ((x29_2 : Int) < (8 : Int)) = True := qa_ x3_1 8
       have p248 : 0 ≤ (x29_2 : Int) := ad_
       have q248 : x29_2 < (x3_1.length : Int) := ad_
       obtain ⟨ad248, e248, hx248_0⟩ := Kd.at_int (Kd.R_reads' HO_3.out).2.2 x29_2 p248 q248
       obtain rfl : (⟨go5, 0, none⟩ : Addr) = ad248 := (by injection e248)
       (first | simp only [add_plain] at hx248_0 | simp only [add_at] at hx248_0 | simp only [Addr.add, Nat.zero_add] at hx248_0 | skip)
       replace p248 := eq_true p248
       replace q248 := eq_true q248
       refine sK_ 23 (fun w' => w'.cell? ⟨go5, (x29_2).toNat, none⟩ = some (.int .u32 (rd x3_1 x29_2)) ∧ w'.cell? ⟨go5, (x29_2).toNat, none⟩ = some (.int .u32 (rd x3_1 x29_2)) ∧ w'.cell? ⟨go5, (x29_2).toNat, none⟩ = some (.int .u32 (rd x3_1 x29_2)) ∧ w'.cell? ⟨go5, (x29_2).toNat, none⟩ = some (.int .u32 (rd x3_1 x29_2))) [21] Ja.tab43 Ja.bits43 ⟨hx245_0, hx246_0, hx247_0, hx248_0⟩ fun hHeld HT_ HW_ => ?_
       generalize wr.drew = w119 at HO_3 HO_28 HB hx245_0 hx246_0 hx247_0 hx248_0 hHeld ⊢
       refine runs_ [(0, some 243), (1, some 244), (2, some 245), (6, some 249), (7, some 250), (11, some 254), (12, some 255), (16, some 259), (17, some 260), (3, some 246), (4, some 247), (5, some 248), (8, some 251), (9, some 252), (10, some 253), (13, some 256), (14, some 257), (15, some 258), (18, some 261), (19, some 262)] ?_
       (iterate 9 (refine pL_ ?_)); (iterate 3 (refine tL_ ?_; iterate 2 (refine pL_ ?_))); refine tL_ ?_; refine pL_ ?_; refine runsE_ ?_
       refine oK_ 20 (some 263) fun K hK => ?_
       refine Kd.R_lit_step (Kd.int .u8) _ 5 ?hg (N := 263) ?hd (xs := ([((rd x3_1 x29_2) / 16777216) % 256, ((rd x3_1 x29_2) / 65536) % 256, ((rd x3_1 x29_2) / 256) % 256, (rd x3_1 x29_2) % 256] : List Int)) (inner := [.int .u8 (((rd x3_1 x29_2) / 16777216) % 256), .int .u8 (((rd x3_1 x29_2) / 65536) % 256), .int .u8 (((rd x3_1 x29_2) / 256) % 256), .int .u8 ((rd x3_1 x29_2) % 256)]) (ok := fun _ => True) (okp := fun _ => True) ?hr ?hp (fun _ hk => hk) trivial (Below.refl _ _) (Nat.le_refl _) (by simp) ?_; (case hd => rfl); (case hg => rfl); (case hr => exact gr_); (case hp => exact (Reps.one (show Kd.M (Kd.int .u8) _ _ _ (((rd x3_1 x29_2) / 16777216) % 256) [.int .u8 (((rd x3_1 x29_2) / 16777216) % 256)] from rfl) (Reps.one (show Kd.M (Kd.int .u8) _ _ _ (((rd x3_1 x29_2) / 65536) % 256) [.int .u8 (((rd x3_1 x29_2) / 65536) % 256)] from rfl) (Reps.one (show Kd.M (Kd.int .u8) _ _ _ (((rd x3_1 x29_2) / 256) % 256) [.int .u8 (((rd x3_1 x29_2) / 256) % 256)] from rfl) (Reps.one (show Kd.M (Kd.int .u8) _ _ _ ((rd x3_1 x29_2) % 256) [.int .u8 ((rd x3_1 x29_2) % 256)] from rfl) (Reps.none _ _))))))
       intro v250 w120 ho121 hb hg_ hnew_
       have HS0_ := (hb.cell (World.block_lt_of_cell? _ _ (hHeld.1))).trans (hHeld.1)
       have HS1_ := (hb.cell (World.block_lt_of_cell? _ _ (hHeld.2.1))).trans (hHeld.2.1)
       have HS2_ := (hb.cell (World.block_lt_of_cell? _ _ (hHeld.2.2.1))).trans (hHeld.2.2.1)
       have HS3_ := (hb.cell (World.block_lt_of_cell? _ _ (hHeld.2.2.2))).trans (hHeld.2.2.2)
       clear hg_ hnew_
       (first | rw [← Ny249.out] at ho121 | (simp only [Int.reduceToNat] at ho121; rw [← Ny249.out] at ho121))
       have HO251 := Aside0.mk (Kd.R_lower (Kd.R_new' ho121 (Kd.R_lt (mv_ HO_28.out))) (below_size bl_))
       replace HB := Aside0.mk (below_step bl_ hb)
       replace HO_28 := Aside0.mk (Kd.R_elder' (mv_ HO_28.out) (Kd.R_base ho121) hb)
       replace HO_3 := Aside0.mk (Kd.R_below (mv_ HO_3.out) hb)
       clear hb ho121
       obtain ⟨Ao123, co123, eo123⟩ := Kd.R_slice HO251.out
       (first | subst eo123 | (injection eo123 with f1_ f2_ f3_; have f4_ := f1_.symm; have f5_ := f3_.symm; clear f1_ f2_ f3_; subst f4_; subst f5_))
       refine hK.out _ _ ⟨HS0_, HS1_, HS2_, HS3_⟩ (fun hHeld => ?_)
       clear hK K
       refine nK_ (some 263) ?_
       refine lK_ 21 (some 264) fun K hK => ?_
       refine Kd.R_append_rows_step (Kd.int .u8) (w0 := w) w.heap.size (by rfl) (.tmp 243) (.tmp 263) 68 5 (.int .u8 0) 1 rfl Tryz.underlying68 info5 rfl (by decide) (by omega) u28 x28_2 y249 _ _ _ (fun k_ => some k_ ≠ (.slice Ao123 y249.length co123 : Value).ownBlock) (fun _ => False) rfl rfl ?aO ?aR (fun _ _ h => h) (fun _ h => h.elim) ?aF ?aB ?aS ?aL ?_
       (case aR => repeat (first | exact (Kd.R_reads' HO251.out).2.2 | (with_reducible refine Kd.C_alloc ?_ _) | (with_reducible refine Kd.C_drewN ?_ _) | (with_reducible refine Kd.C_drew ?_)))
       (case aB => exact bl_)
       (case aF => exact (fun k_ hk => Kd.fresh' (Kd.R_lt (mv_ HO251.out)) k_ hk))
       (case aO => exact (by refine mv_ ?_; exact Kd.R_mono HO_28.out (fun _ hk => hk.2)))
       (case aS => exact (below_size bl_))
       (case aL => have := LMc118.out; omega)
       intro v253 w122 ho hb hg hat
       rw [← Ny252.out] at ho
       have HO254 := Aside0.mk (ho)
       replace HB := Aside0.mk (hb)
       replace HO251 := Aside0.mk (Kd.R_after (ok := (fun _ => True)) (mv_ HO251.out) hg hat)
       replace HO_3 := Aside0.mk (Kd.R_over' (mv_ HO_3.out) (Kd.R_typed (mv_ HO_28.out)) (by decide) hg)
       clear HO_28
       clear ho hb hg hat
       refine hK.out _ _ ?_
       clear hK K
       refine nK_ (some 264) ?_
       refine pK_ 22 28 ?_
       refine dK_ ?_
       try go_wp2
       go_roundg k2
       case measure => have := HK1.out; have := HK2.out; omega
       case rel => exact ⟨(y252), (wrap64 (x29_2 + 1)), vq_, H', ⟨by have := HK1.out; have := HK2.out; omega⟩, ⟨by refine mv_ ?_; exact HO_3.out⟩, ⟨by refine mv_ ?_; exact Kd.R_mono HO254.out (fun _ hk => trivial)⟩, ⟨bl_⟩⟩
      ·rw [if_neg c115] at H
       exact absurd H (by simp)
      ⟩
      exact inferInstanceAs _
     rw [if_neg c114] at H
     have c114b0 : decide (x29_2 < 8) = false := decide_eq_false c114
     clear c114
     obtain rfl := Option.some.inj H
     have hcv124 := own_string (P := Tryz.prog) Tryz.underlying68 Tryz.underlying5 Tryz.underlying9 (Kd.own_of_R HO_28.out)
     go_wp2
     go_ret
     exact ⟨er_, bl_⟩
   ⟩
   exact inferInstanceAs _

/-! ### Jq = palaverref02_Tag: function 31 -/
def Jq.f (k : Nat) (a0 : Int) (l1 : List ByteArray) : Option (ByteArray) := (Jh.f k a0 l1).bind fun t255 => ((Ja.f k t255).bind fun t256 => (some t256))
set_option maxHeartbeats 64000000 in
set_option maxRecDepth 100000 in
theorem Jq.calls (k : Nat) (a0 : Int) (A1 : Option Addr) (c1 : Nat) (l1 : List ByteArray) (r : ByteArray) (w : World) (hr1 : Kd.C Kd.string w A1 l1.length l1) (hc1 : l1.length ≤ c1) (h : Jq.f k a0 l1 = some r) :
 Calls Tryz.prog 31 #[.int .i64 a0, .slice A1 l1.length c1] w fun e w' => e = .returned (.string r) ∧ Below w.heap.size w w' := by
 have HR1 := Aside0.mk hr1
 have HC1 := Aside0.mk hc1
 clear hr1 hc1
 have HB := Aside0.mk (Below.refl w.heap.size w)
 have H : ((Jh.f k a0 l1).bind fun t255 => ((Ja.f k t255).bind fun t256 => (some t256))) = some r := h
 clear h
 revert H; refine oa_ fun t255 A3 => oa_ fun t256 A4 H => ?_
 obtain rfl := Option.some.inj H
 go_enter Tryz.func31, Tryz.ntmps31
 go_wp2_with (first | ((with_reducible refine gate_callee (f := 34) rfl ?_); refine gL_ 7 Tryz.func34 #[.int .i64 a0, .slice A1 l1.length c1] ?_; (with_reducible refine (Jh.calls k a0 _ _ l1 t255 _ ?side1 ?side2 A3.out).mono ?_); (case side1 => repeat (first | exact HR1.out | (with_reducible refine Kd.C_alloc ?_ _) | (with_reducible refine Kd.C_drewN ?_ _) | (with_reducible refine Kd.C_drew ?_))); (case side2 => exact HC1.out); rintro e w5 ⟨rfl, hb⟩; refine ⟨_, rfl, ?_⟩; replace HB := Aside0.mk (below_step bl_ hb); clear hb) | ((with_reducible refine gate_callee (f := 62) rfl ?_); refine gL_ 8 Tryz.func62 #[.string t255] ?_; (with_reducible refine (Ja.calls k t255 t256 _ A4.out).mono ?_); rintro e w6 ⟨rfl, hb⟩; refine ⟨_, rfl, ?_⟩; replace HB := Aside0.mk (below_step bl_ hb); clear hb))
 go_ret
 exact ⟨er_, bl_⟩

/-! ### Uz = palaverref06_Id: function 21 -/
def Uz.f (k : Nat) (a0 : ByteArray) : Option (ByteArray) := (Jq.f k 7 (([a0] : List ByteArray))).bind fun t260 => (some t260)
set_option maxHeartbeats 64000000 in
set_option maxRecDepth 100000 in
theorem Uz.calls (k : Nat) (a0 : ByteArray) (r : ByteArray) (w : World) (h : Uz.f k a0 = some r) :
 Calls Tryz.prog 21 #[.string a0] w fun e w' => e = .returned (.string r) ∧ Below w.heap.size w w' := by
 have HB := Aside0.mk (Below.refl w.heap.size w)
 have H : ((Jq.f k 7 (([a0] : List ByteArray))).bind fun t260 => (some t260)) = some r := h
 clear h
 generalize e_ : (([a0] : List ByteArray) : List ByteArray) = y257 at H
 have Ny257 := Aside0.mk e_.symm
 clear e_
 revert H; refine oa_ fun t260 A2 H => ?_
 obtain rfl := Option.some.inj H
 go_enter Tryz.func21, Tryz.ntmps21
 go_wp2_with (first | ((with_reducible refine gate_dst (N := 4) rfl ?_); refine Kd.R_lit Kd.string _ 9 ?hg (N := 4) ?hd (xs := ([a0] : List ByteArray)) (inner := [.string a0]) (ok := fun _ => True) (okp := fun _ => True) ?hr ?hp (fun _ hk => hk) trivial (Below.refl _ _) (Nat.le_refl _) (by simp) ?_; (case hd => rfl); (case hg => rfl); (case hr => exact gr_); (case hp => exact (Reps.one (show Kd.M Kd.string _ _ _ a0 [.string a0] from rfl) (Reps.none _ _))); intro v258 w3 ho4 hb hg_ hnew_; clear hg_ hnew_; (first | rw [← Ny257.out] at ho4 | (simp only [Int.reduceToNat] at ho4; rw [← Ny257.out] at ho4)); have HO259 := Aside0.mk (Kd.R_lower ho4 (below_size bl_)); replace HB := Aside0.mk (below_step bl_ hb); clear hb ho4; obtain ⟨Ao5, co5, eo5⟩ := Kd.R_slice HO259.out; subst eo5) | ((with_reducible refine gate_callee (f := 31) rfl ?_); refine gL_ 5 Tryz.func31 #[.int .i64 7, .slice Ao5 y257.length co5] ?_; (with_reducible refine (Jq.calls k 7 _ _ y257 t260 _ ?side1 ?side2 A2.out).mono ?_); (case side1 => repeat (first | exact (Kd.R_reads' HO259.out).2.2 | (with_reducible refine Kd.C_alloc ?_ _) | (with_reducible refine Kd.C_drewN ?_ _) | (with_reducible refine Kd.C_drew ?_))); (case side2 => exact (Kd.R_reads' HO259.out).2.1); rintro e w6 ⟨rfl, hb⟩; refine ⟨_, rfl, ?_⟩; replace HB := Aside0.mk (below_step bl_ hb); replace HO259 := Aside0.mk (Kd.R_below (mv_ HO259.out) hb); clear hb))
 go_ret
 exact ⟨er_, bl_⟩

/-! ### J8 = palaverlaw06_awake: function 6 -/
def J8.l0 : Nat → ByteArray → Option (Bool)
 | 0, _ => none
 | k + 1, x1 => if (x1.size : Int) < 32 then (if x1.size + 1 ≤ 9223372036854775807 then (J8.l0 k (x1 ++ (⟨#[97]⟩ : ByteArray))) else (none)) else ((Ux.f k 1 x1 ([] : List ByteArray) (⟨#[114]⟩ : ByteArray) (⟨#[]⟩ : ByteArray)).bind fun bt261 => (if bt261.2 = 0 then (if 3 + x1.size ≤ 9223372036854775807 then (if ((⟨#[1, 0, 32]⟩ : ByteArray) ++ x1).size + 6 ≤ 9223372036854775807 then (if bt261.1.toList = (((⟨#[1, 0, 32]⟩ : ByteArray) ++ x1) ++ (⟨#[0, 0, 1, 114, 0, 0]⟩ : ByteArray)).toList then ((U5.f k (⟨#[120]⟩ : ByteArray)).bind fun t263 => ((Uz.f k (⟨#[120]⟩ : ByteArray)).bind fun t264 => (some (t263.toList == t264.toList)))) else (some false)) else (none)) else (none)) else (some false)))
def J8.f (k : Nat)  : Option (Bool) := J8.l0 k (⟨#[]⟩ : ByteArray)
set_option maxHeartbeats 64000000 in
set_option maxRecDepth 100000 in
theorem J8.calls (k : Nat)  (r : Bool) (w : World) (hrG : Kd.C (Kd.int .u32) w (some ⟨0, 0, none⟩) keysL.length keysL) (h : J8.f k  = some r) :
 Calls Tryz.prog 6 #[] w fun e w' => e = .returned (.bool r) ∧ Below w.heap.size w w' := by
 have hu24 := Tryz.underlying24
 have HRG := Aside0.mk hrG
 clear hrG
 have HB := Aside0.mk (Below.refl w.heap.size w)
 have H : (J8.l0 k (⟨#[]⟩ : ByteArray)) = some r := h
 clear h
 have H' := Aside0.mk H
 clear H
 go_enter Tryz.func6, Tryz.ntmps6
 go_wp2
 go_loopg [1] k (fun kq v1 w' => ∃ (x1_1 : ByteArray), v1 = .string x1_1 ∧ Aside0 (J8.l0 kq x1_1 = some r) ∧ Aside0 (kq ≤ k) ∧ Aside0 (Below w.heap.size w w'))
 case atStart => exact ⟨((⟨#[]⟩ : ByteArray)), vq_, H', ⟨Nat.le_refl _⟩, ⟨bl_⟩⟩
 case round =>
  clear H'
  obtain ⟨x1_1, rfl, HA, HK1, HB⟩ := hrel
  cases gk with
  | zero => exact absurd HA.out (by simp [J8.l0])
  | succ k1 =>
   have H := HA.out
   clear HA
   simp only [J8.l0] at H
   by_cases c1 : (x1_1.size : Int) < 32
   ·rw [if_pos c1] at H
    have c1b0 : decide ((x1_1.size : Int) < 32) = true := decide_eq_true c1
    have c1b1 : decide (x1_1.size < 32) = true := decide_eq_true (by omega)
    clear c1
    revert H; refine ne_ fun c2 c2b0 c2b1 H => ?_
    try have c2b2 : (9223372036854775807 < x1_1.size + 1) = False := eq_false (Nat.not_lt.2 c2)
    have H' := Aside0.mk H
    clear H
    go_wp2
    go_roundg k1
    case measure => have := HK1.out; omega
    case rel => exact ⟨(x1_1 ++ (⟨#[97]⟩ : ByteArray)), vq_, H', ⟨by have := HK1.out; omega⟩, ⟨bl_⟩⟩
   rw [if_neg c1] at H
   have c1b0 : decide ((x1_1.size : Int) < 32) = false := decide_eq_false c1
   have c1b1 : decide (x1_1.size < 32) = false := decide_eq_false (by omega)
   clear c1
   replace H := ob_ H
   obtain ⟨⟨t261, t262⟩, A30, H⟩ := H
   replace H : (if t262 = 0 then (if 3 + x1_1.size ≤ 9223372036854775807 then (if ((⟨#[1, 0, 32]⟩ : ByteArray) ++ x1_1).size + 6 ≤ 9223372036854775807 then (if t261.toList = (((⟨#[1, 0, 32]⟩ : ByteArray) ++ x1_1) ++ (⟨#[0, 0, 1, 114, 0, 0]⟩ : ByteArray)).toList then ((U5.f k1 (⟨#[120]⟩ : ByteArray)).bind fun t263 => ((Uz.f k1 (⟨#[120]⟩ : ByteArray)).bind fun t264 => (some (t263.toList == t264.toList)))) else (some false)) else (none)) else (none)) else (some false)) = some r := H
   have A3 := Aside0.mk A30
   clear A30
   by_cases c4 : t262 = 0
   ·rw [if_pos c4] at H
    have c4b0 : (t262 == 0) = true := beq_iff_eq.mpr c4
    have c4b1 : (t262 != 0) = false := bne_eq_false_iff_eq.mpr c4
    clear c4
    revert H; refine ne_ fun c5 c5b0 c5b1 => ne_ fun c6 c6b0 c6b1 H => ?_
    try have c5b2 : (9223372036854775807 < 3 + x1_1.size) = False := eq_false (Nat.not_lt.2 c5)
    try have c6b2 : (9223372036854775807 < ((⟨#[1, 0, 32]⟩ : ByteArray) ++ x1_1).size + 6) = False := eq_false (Nat.not_lt.2 c6)
    try have c6b3 : (9223372036854775807 < 3 + x1_1.size + 6) = False := eq_false (Nat.not_lt.2 (by rw [ByteArray.size_append] at c6; exact c6))
    by_cases c7 : t261.toList = (((⟨#[1, 0, 32]⟩ : ByteArray) ++ x1_1) ++ (⟨#[0, 0, 1, 114, 0, 0]⟩ : ByteArray)).toList
    ·rw [if_pos c7] at H
     have c7b0 : (t261.toList == (((⟨#[1, 0, 32]⟩ : ByteArray) ++ x1_1) ++ (⟨#[0, 0, 1, 114, 0, 0]⟩ : ByteArray)).toList) = true := beq_iff_eq.mpr c7
     have c7b1 : (t261.toList != (((⟨#[1, 0, 32]⟩ : ByteArray) ++ x1_1) ++ (⟨#[0, 0, 1, 114, 0, 0]⟩ : ByteArray)).toList) = false := bne_eq_false_iff_eq.mpr c7
     clear c7
     revert H; refine oa_ fun t263 A8 => oa_ fun t264 A9 H => ?_
     obtain rfl := Option.some.inj H
     go_wp2_with (first | ((with_reducible refine gate_callee (f := 19) rfl ?_); refine gL_ 12 Tryz.func19 #[.agg #[.int .i64 1, .string x1_1, .slice none 0 0, .string (⟨#[114]⟩ : ByteArray), .string ⟨#[]⟩]] ?_; (refine (Ux.calls k1 1 x1_1 _ _ ([] : List ByteArray) (⟨#[114]⟩ : ByteArray) (⟨#[]⟩ : ByteArray) t261 t262 _ ?side1 ?side2 A3.out).mono ?_); (case side1 => exact Kd.C_nil _ _); (case side2 => exact Nat.le_refl _); rintro e w10 ⟨rfl, hb⟩; refine ⟨_, rfl, ?_⟩; replace HB := Aside0.mk (below_step bl_ hb); clear hb) | (go_at_call 20; (with_reducible refine (U5.calls k1 (⟨#[120]⟩ : ByteArray) t263 _ ?side1 A8.out).mono ?_); (case side1 => repeat (first | exact (Kd.C_below HRG.out HB.out) | (with_reducible refine Kd.C_alloc ?_ _) | (with_reducible refine Kd.C_drewN ?_ _) | (with_reducible refine Kd.C_drew ?_))); rintro e w11 ⟨rfl, hb⟩; replace HB := Aside0.mk (below_step bl_ hb); clear hb) | (go_at_call 21; (with_reducible refine (Uz.calls k1 (⟨#[120]⟩ : ByteArray) t264 _ A9.out).mono ?_); rintro e w12 ⟨rfl, hb⟩; replace HB := Aside0.mk (below_step bl_ hb); clear hb))
     go_ret
     exact ⟨er_, bl_⟩
    rw [if_neg c7] at H
    have c7b0 : (t261.toList == (((⟨#[1, 0, 32]⟩ : ByteArray) ++ x1_1) ++ (⟨#[0, 0, 1, 114, 0, 0]⟩ : ByteArray)).toList) = false := beq_eq_false_iff_ne.mpr c7
    have c7b1 : (t261.toList != (((⟨#[1, 0, 32]⟩ : ByteArray) ++ x1_1) ++ (⟨#[0, 0, 1, 114, 0, 0]⟩ : ByteArray)).toList) = true := bne_iff_ne.mpr c7
    obtain rfl := Option.some.inj H
    go_wp2_with (first | ((with_reducible refine gate_callee (f := 19) rfl ?_); refine gL_ 12 Tryz.func19 #[.agg #[.int .i64 1, .string x1_1, .slice none 0 0, .string (⟨#[114]⟩ : ByteArray), .string ⟨#[]⟩]] ?_; (refine (Ux.calls k1 1 x1_1 _ _ ([] : List ByteArray) (⟨#[114]⟩ : ByteArray) (⟨#[]⟩ : ByteArray) t261 t262 _ ?side1 ?side2 A3.out).mono ?_); (case side1 => exact Kd.C_nil _ _); (case side2 => exact Nat.le_refl _); rintro e w13 ⟨rfl, hb⟩; refine ⟨_, rfl, ?_⟩; replace HB := Aside0.mk (below_step bl_ hb); clear hb))
    go_ret
    exact ⟨er_, bl_⟩
   rw [if_neg c4] at H
   have c4b0 : (t262 == 0) = false := beq_eq_false_iff_ne.mpr c4
   have c4b1 : (t262 != 0) = true := bne_iff_ne.mpr c4
   obtain rfl := Option.some.inj H
   go_wp2_with (first | ((with_reducible refine gate_callee (f := 19) rfl ?_); refine gL_ 12 Tryz.func19 #[.agg #[.int .i64 1, .string x1_1, .slice none 0 0, .string (⟨#[114]⟩ : ByteArray), .string ⟨#[]⟩]] ?_; (refine (Ux.calls k1 1 x1_1 _ _ ([] : List ByteArray) (⟨#[114]⟩ : ByteArray) (⟨#[]⟩ : ByteArray) t261 t262 _ ?side1 ?side2 A3.out).mono ?_); (case side1 => exact Kd.C_nil _ _); (case side2 => exact Nat.le_refl _); rintro e w14 ⟨rfl, hb⟩; refine ⟨_, rfl, ?_⟩; replace HB := Aside0.mk (below_step bl_ hb); clear hb))
   go_ret
   exact ⟨er_, bl_⟩

-- NOT PRINTED: function 46 (atomic_StoreInt32)

-- NOT PRINTED: function 22 (atomic_Int32_Store)

-- NOT PRINTED: function 7 (key_New)

/-! ### Ue = merkle_leaves: function 74 -/
def Ue.f (a0 : Int) : Option (Bool) := if a0 ≥ 1 then (if a0 ≤ 16 then (some ((Go.bits .and .i64 a0 (wrap64 (a0 - 1))) == 0)) else (some false)) else (some false)
set_option maxHeartbeats 64000000 in
set_option maxRecDepth 100000 in
theorem Ue.calls (a0 : Int) (r : Bool) (w : World) (h : Ue.f a0 = some r) :
 Calls Tryz.prog 74 #[.int .i64 a0] w fun e w' => e = .returned (.bool r) ∧ Drawn0 w w' := by
 have H : (if a0 ≥ 1 then (if a0 ≤ 16 then (some ((Go.bits .and .i64 a0 (wrap64 (a0 - 1))) == 0)) else (some false)) else (some false)) = some r := h
 clear h
 by_cases c2 : a0 ≥ 1
 ·rw [if_pos c2] at H
  have c2b0 : decide (1 ≤ a0) = true := decide_eq_true c2
  clear c2
  by_cases c3 : a0 ≤ 16
  ·rw [if_pos c3] at H
   have c3b0 : decide (a0 ≤ 16) = true := decide_eq_true c3
   clear c3
   obtain rfl := Option.some.inj H
   go_enter Tryz.func74, Tryz.ntmps74
   go_wp2
   go_ret
   exact ⟨by first | rfl | (simp; done) | (simp [*]; done) | exact congrArg Value.bool (nonempty_l _) | (refine congrArg (Value.int _) ?_; first | omega | (unfold wrap64; omega)), by repeat (first | exact Drawn0.refl _ | apply Drawn0.step)⟩
  rw [if_neg c3] at H
  have c3b0 : decide (a0 ≤ 16) = false := decide_eq_false c3
  clear c3
  obtain rfl := Option.some.inj H
  go_enter Tryz.func74, Tryz.ntmps74
  go_wp2
  go_ret
  exact ⟨by first | rfl | (simp; done) | (simp [*]; done) | exact congrArg Value.bool (nonempty_l _) | (refine congrArg (Value.int _) ?_; first | omega | (unfold wrap64; omega)), by repeat (first | exact Drawn0.refl _ | apply Drawn0.step)⟩
 rw [if_neg c2] at H
 have c2b0 : decide (1 ≤ a0) = false := decide_eq_false c2
 clear c2
 obtain rfl := Option.some.inj H
 go_enter Tryz.func74, Tryz.ntmps74
 go_wp2
 go_ret
 exact ⟨by first | rfl | (simp; done) | (simp [*]; done) | exact congrArg Value.bool (nonempty_l _) | (refine congrArg (Value.int _) ?_; first | omega | (unfold wrap64; omega)), by repeat (first | exact Drawn0.refl _ | apply Drawn0.step)⟩

/-! ### J4 = merkle_root: function 75 -/
def J4.f : Nat → List ByteArray → Option (ByteArray)
 | 0, _ => none
 | k + 1, l0 => if (l0.length : Int) = 1 then (if 0 < (l0.length : Int) then (some (rdOf ByteArray.empty l0 0)) else (none)) else (if 0 ≤ (wrap64 ((l0.length : Int) / 2)) then (if (wrap64 ((l0.length : Int) / 2)) ≤ (l0.length : Int) then ((J4.f k (l0.take ((wrap64 ((l0.length : Int) / 2)) : Int).toNat)).bind fun t267 => ((J4.f k (l0.drop ((wrap64 ((l0.length : Int) / 2)) : Int).toNat)).bind fun t269 => ((J5.f k 4 (([t267, t269] : List ByteArray))).bind fun t273 => (some t273)))) else (none)) else (none))
def J4.T3 : Bool × List (List Nat × List Nat) := (true, [([], []), ([], []), ([1], [1]), ([2], [2]), ([0, 3], [0, 3]), ([4], [4]), ([], []), ([], []), ([7], [7]), ([8], [8]), ([6, 9], [6, 9]), ([10, 5], [10]), ([5, 11], [5, 11]), ([12, 11], [12]), ([13, 13, 0, 1, 2, 3, 4, 5, 6, 7, 8, 9, 10, 11, 12, 13], [13])])
def J4.B3 : List Nat := [0, 0, 2, 6, 15, 31, 0, 0, 128, 384, 960, 2047, 4095, 8191, 16383]
theorem J4.tab3 : rtab .any (opsOf Tryz.f75 3) = J4.T3 := by kernel_rfl
theorem J4.bits3 : waitsOk J4.T3.2 J4.B3 = true := by kernel_rfl
set_option maxHeartbeats 64000000 in
set_option maxRecDepth 100000 in
theorem J4.calls (k : Nat) : ∀ (A0 : Option Addr) (c0 : Nat) (l0 : List ByteArray) (r : ByteArray) (w : World) (hr0 : Kd.C Kd.string w A0 l0.length l0) (hc0 : l0.length ≤ c0) (hrG : Kd.C (Kd.int .u32) w (some ⟨0, 0, none⟩) keysL.length keysL) (h : J4.f k l0 = some r),
 Calls Tryz.prog 75 #[.slice A0 l0.length c0] w fun e w' => e = .returned (.string r) ∧ Below w.heap.size w w' := by
 induction k using Nat.strongRecOn with
 | _ k ih =>
 intro A0 c0 l0 r w hr0 hc0 hrG h
 cases k with
 | zero => exact absurd h (by simp [J4.f])
 | succ k =>
 simp only [J4.f] at h
 have HR0 := Aside0.mk hr0
 have HC0 := Aside0.mk hc0
 clear hr0 hc0
 have HRG := Aside0.mk hrG
 clear hrG
 have HB := Aside0.mk (Below.refl w.heap.size w)
 have H : (if (l0.length : Int) = 1 then (if 0 < (l0.length : Int) then (some (rdOf ByteArray.empty l0 0)) else (none)) else (if 0 ≤ (wrap64 ((l0.length : Int) / 2)) then (if (wrap64 ((l0.length : Int) / 2)) ≤ (l0.length : Int) then ((J4.f k (l0.take ((wrap64 ((l0.length : Int) / 2)) : Int).toNat)).bind fun t267 => ((J4.f k (l0.drop ((wrap64 ((l0.length : Int) / 2)) : Int).toNat)).bind fun t269 => ((J5.f k 4 (([t267, t269] : List ByteArray))).bind fun t273 => (some t273)))) else (none)) else (none))) = some r := h
 clear h
 by_cases c2 : (l0.length : Int) = 1
 ·rw [if_pos c2] at H
  have c2b0 : ((l0.length : Int) == 1) = true := beq_iff_eq.mpr c2
  have c2b1 : ((l0.length : Int) != 1) = false := bne_eq_false_iff_eq.mpr c2
  clear c2
  revert H; refine nd_ fun c3 c3b0 H => ?_
  have c3b1 : decide (0 < l0.length) = true := decide_eq_true (by omega)
  clear c3
  obtain rfl := Option.some.inj H
  have p265 : 0 ≤ (0 : Int) := (by omega)
  have q265 : 0 < (l0.length : Int) := ae_
  obtain ⟨ad265, e265, hx265_0⟩ := Kd.at_string HR0.out 0 p265 q265
  cases e265
  have qi265 : (0 < l0.length) = True := eq_true (by omega)
  rw [show ((0 : Int)).toNat = 0 from rfl] at hx265_0
  rw [Addr.add_zero'] at hx265_0
  replace p265 := eq_true p265
  replace q265 := eq_true q265
  go_enter Tryz.func75, Tryz.ntmps75
  go_wp2
  go_ret
  exact ⟨er_, bl_⟩
 rw [if_neg c2] at H
 have c2b0 : ((l0.length : Int) == 1) = false := beq_eq_false_iff_ne.mpr c2
 have c2b1 : ((l0.length : Int) != 1) = true := bne_iff_ne.mpr c2
 generalize hji4 : (wrap64 ((l0.length : Int) / 2)) = ji4 at H
 have hji4w := (i64_w _).trans hji4
 revert H; refine ne_ fun c5 c5b0 c5b1 => ne_ fun c6 c6b0 c6b1 => oa_ fun t267 A7 H => ?_
 clear c5 c6
 have c8b0 := eq_true (ae_ : 0 ≤ (ji4))
 have c9b0 := eq_true (ae_ : (ji4) ≤ (l0.length : Int))
 revert H; refine oa_ fun t269 A10 H => ?_
 generalize e_ : (([t267, t269] : List ByteArray) : List ByteArray) = y270 at H
 have Ny270 := Aside0.mk e_.symm
 clear e_
 revert H; refine oa_ fun t273 A11 H => ?_
 obtain rfl := Option.some.inj H
 go_enter Tryz.func75, Tryz.ntmps75
 try go_wp2
 replace HB := Aside0.mk (below_drew1 HB.out)
 obtain ⟨i013, hi013, _, hsz13, _⟩ := info_parts info9
 obtain ⟨hcut13, hA13, hC13⟩ := print_take_of (P := Tryz.prog) Value.string ⟨#[]⟩ 22 9 .i64 Tryz.underlying22 hi013 hsz13 A0 c0 l0 (ji4) (ae_) (ae_) HC0.out
 have HR266 := Aside0.mk (Kd.C_of_reads (h1 := fun _ => rfl) (hA13 _ (Kd.reads_of_C HR0.out)))
 have HC266 := Aside0.mk hC13
 clear hA13 hC13 hi013 hsz13
 obtain ⟨i014, hi014, _, hsz14, _⟩ := info_parts info9
 obtain ⟨A14, hcut14, hA14, hC14⟩ := print_drop_of (P := Tryz.prog) Value.string ⟨#[]⟩ 22 9 .i64 Tryz.underlying22 hi014 hsz14 A0 c0 l0 (ji4) (ae_) (ae_) HC0.out
 have HR268 := Aside0.mk (Kd.C_of_reads (h1 := fun _ => rfl) (hA14 _ (Kd.reads_of_C HR0.out)))
 have HC268 := Aside0.mk hC14
 clear hA14 hC14 hi014 hsz14
 refine sK_ 15 (fun w' => True) [] J4.tab3 J4.bits3 trivial fun hHeld HT_ HW_ => ?_
 generalize w.drew = w12 at HB HR266 HR268 hHeld ⊢
 refine runs_ [(0, some 9), (1, some 10), (2, some 11), (3, some 12), (4, some 13), (6, some 15), (7, some 16), (8, some 17), (9, some 18), (10, some 19)] ?_
 (iterate 10 (refine pL_ ?_)); refine runsE_ ?_
 refine oK_ 5 (some 14) fun K hK => ?_
 refine goes_ Tryz.func75 (by kernel_rfl) rfl #[.slice A0 (l0.take ((ji4) : Int).toNat).length c0] (by rfl) rfl rfl (by (simp only [List.map_toArray, List.map_cons, List.map_nil]); first | done | (rw [show (l0.take ((ji4) : Int).toNat).length = (ji4).toNat from (by rw [List.length_take]; have h_ : ((ji4) : Int) ≤ (l0.length : Int) := ae_; omega)] <;> rfl) | (simp only [hji4]; rfl) | rfl | (simp only [List.length_drop, List.length_take]; rfl)) ?_
 with_reducible refine (ih k (by omega) _ _ (l0.take ((ji4) : Int).toNat) t267 _ ?side1 ?side2 ?side3 A7.out).mono ?_
 (case side1 => repeat (first | exact (Kd.C_below HR266.out HB.out) | (with_reducible refine Kd.C_alloc ?_ _) | (with_reducible refine Kd.C_drewN ?_ _) | (with_reducible refine Kd.C_drew ?_)))
 (case side2 => exact HC266.out)
 (case side3 => repeat (first | exact (Kd.C_below HRG.out HB.out) | (with_reducible refine Kd.C_alloc ?_ _) | (with_reducible refine Kd.C_drewN ?_ _) | (with_reducible refine Kd.C_drew ?_)))
 rintro e w15 ⟨rfl, hb⟩
 refine ⟨_, rfl, ?_⟩
 replace HB := Aside0.mk (below_step bl_ hb)
 clear hb
 refine hK.out _ _ trivial (fun hHeld => ?_)
 clear hK K
 refine nK_ (some 14) ?_
 refine oK_ 11 (some 20) fun K hK => ?_
 refine goes_ Tryz.func75 (by kernel_rfl) rfl #[.slice A14 (l0.drop ((ji4) : Int).toNat).length (c0 - (ji4).toNat)] (by rfl) rfl rfl (by (simp only [List.map_toArray, List.map_cons, List.map_nil]); first | done | (rw [show (l0.drop ((ji4) : Int).toNat).length = (l0.length - (ji4).toNat) from List.length_drop] <;> rfl) | (simp only [hji4]; rfl) | rfl | (simp only [List.length_drop, List.length_take]; rfl)) ?_
 with_reducible refine (ih k (by omega) _ _ (l0.drop ((ji4) : Int).toNat) t269 _ ?side1 ?side2 ?side3 A10.out).mono ?_
 (case side1 => repeat (first | exact (Kd.C_below HR268.out HB.out) | (with_reducible refine Kd.C_alloc ?_ _) | (with_reducible refine Kd.C_drewN ?_ _) | (with_reducible refine Kd.C_drew ?_)))
 (case side2 => exact HC268.out)
 (case side3 => repeat (first | exact (Kd.C_below HRG.out HB.out) | (with_reducible refine Kd.C_alloc ?_ _) | (with_reducible refine Kd.C_drewN ?_ _) | (with_reducible refine Kd.C_drew ?_)))
 rintro e w16 ⟨rfl, hb⟩
 refine ⟨_, rfl, ?_⟩
 replace HB := Aside0.mk (below_step bl_ hb)
 clear hb
 refine hK.out _ _ trivial (fun hHeld => ?_)
 clear hK K
 refine nK_ (some 20) ?_
 refine oK_ 12 (some 21) fun K hK => ?_
 refine Kd.R_lit_step Kd.string _ 9 ?hg (N := 21) ?hd (xs := ([t267, t269] : List ByteArray)) (inner := [.string t267, .string t269]) (ok := fun _ => True) (okp := fun _ => True) ?hr ?hp (fun _ hk => hk) trivial (Below.refl _ _) (Nat.le_refl _) (by simp) ?_; (case hd => rfl); (case hg => rfl); (case hr => exact gr_); (case hp => exact (Reps.one (show Kd.M Kd.string _ _ _ t267 [.string t267] from rfl) (Reps.one (show Kd.M Kd.string _ _ _ t269 [.string t269] from rfl) (Reps.none _ _))))
 intro v271 w17 ho18 hb hg_ hnew_
 clear hg_ hnew_
 (first | rw [← Ny270.out] at ho18 | (simp only [Int.reduceToNat] at ho18; rw [← Ny270.out] at ho18))
 have HO272 := Aside0.mk (Kd.R_lower ho18 (below_size bl_))
 replace HB := Aside0.mk (below_step bl_ hb)
 clear hb ho18
 obtain ⟨Ao19, co19, eo19⟩ := Kd.R_slice HO272.out
 (first | subst eo19 | (injection eo19 with f1_ f2_ f3_; have f4_ := f1_.symm; have f5_ := f3_.symm; clear f1_ f2_ f3_; subst f4_; subst f5_))
 refine hK.out _ _ trivial (fun hHeld => ?_)
 clear hK K
 refine nK_ (some 21) ?_
 refine oK_ 13 (some 22) fun K hK => ?_
 refine goes_ Tryz.func45 (by kernel_rfl) rfl #[.int .i64 4, .slice Ao19 y270.length co19] (by rfl) rfl rfl gm1_ ?_
 with_reducible refine (J5.calls k 4 _ _ y270 t273 _ ?side1 ?side2 ?side3 A11.out).mono ?_
 (case side1 => repeat (first | exact (Kd.R_reads' HO272.out).2.2 | (with_reducible refine Kd.C_alloc ?_ _) | (with_reducible refine Kd.C_drewN ?_ _) | (with_reducible refine Kd.C_drew ?_)))
 (case side2 => exact (Kd.R_reads' HO272.out).2.1)
 (case side3 => repeat (first | exact (Kd.C_below HRG.out HB.out) | (with_reducible refine Kd.C_alloc ?_ _) | (with_reducible refine Kd.C_drewN ?_ _) | (with_reducible refine Kd.C_drew ?_)))
 rintro e w20 ⟨rfl, hb⟩
 refine ⟨_, rfl, ?_⟩
 replace HB := Aside0.mk (below_step bl_ hb)
 replace HO272 := Aside0.mk (Kd.R_below (mv_ HO272.out) hb)
 clear hb
 refine hK.out _ _ trivial (fun hHeld => ?_)
 clear hK K
 refine nK_ (some 22) ?_
 refine pK_ 14 2 ?_
 refine dK_ ?_
 try go_wp2
 go_ret
 exact ⟨by first | rfl | (simp [errW_none, errW_some] <;> rfl) | (simp only [← hji4]; first | rfl | (simp [errW_none, errW_some] <;> rfl)) | (simp [*, errW_none, errW_some] <;> rfl), bl_⟩

/-! ### U3 = merkle_Root: function 47 -/
def U3.f (k : Nat) (l0 : List ByteArray) : Option (ByteArray × Bool) := (Ue.f (l0.length : Int)).bind fun t274 => (if t274 = true then ((J4.f k l0).bind fun t275 => (some (t275, true))) else (some ((⟨#[]⟩ : ByteArray), false)))
set_option maxHeartbeats 64000000 in
set_option maxRecDepth 100000 in
theorem U3.calls (k : Nat) (A0 : Option Addr) (c0 : Nat) (l0 : List ByteArray) (r1 : ByteArray) (r2 : Bool) (w : World) (hr0 : Kd.C Kd.string w A0 l0.length l0) (hc0 : l0.length ≤ c0) (hrG : Kd.C (Kd.int .u32) w (some ⟨0, 0, none⟩) keysL.length keysL) (h : U3.f k l0 = some (r1, r2)) :
 Calls Tryz.prog 47 #[.slice A0 l0.length c0] w fun e w' => e = .returned (.tuple #[.string r1, .bool r2]) ∧ Below w.heap.size w w' := by
 have HR0 := Aside0.mk hr0
 have HC0 := Aside0.mk hc0
 clear hr0 hc0
 have HRG := Aside0.mk hrG
 clear hrG
 have HB := Aside0.mk (Below.refl w.heap.size w)
 have H : ((Ue.f (l0.length : Int)).bind fun t274 => (if t274 = true then ((J4.f k l0).bind fun t275 => (some (t275, true))) else (some ((⟨#[]⟩ : ByteArray), false)))) = some (r1, r2) := h
 clear h
 revert H; refine oa_ fun t274 A2 H => ?_
 by_cases c3 : t274 = true
 ·subst c3
  have H1 : ((J4.f k l0).bind fun t275 => (some (t275, true))) = some (r1, r2) := by rw [if_pos rfl] at H; exact H
  clear H
  have H := H1
  clear H1
  revert H; refine oa_ fun t275 A4 H => ?_
  simp only [Option.some.injEq, Prod.mk.injEq] at H
  obtain ⟨rfl, rfl⟩ := H
  go_enter Tryz.func47, Tryz.ntmps47
  go_wp2_with (first | ((with_reducible refine gate_callee (f := 74) rfl ?_); refine gL_ 6 Tryz.func74 #[.int .i64 (l0.length : Int)] ?_; (with_reducible refine (Ue.calls (l0.length : Int) true _ A2.out).mono ?_); rintro e w' ⟨rfl, ⟨nd, rfl⟩⟩; refine ⟨_, rfl, ?_⟩) | ((with_reducible refine gate_callee (f := 75) rfl ?_); refine gL_ 9 Tryz.func75 #[.slice A0 l0.length c0] ?_; (with_reducible refine (J4.calls k _ _ l0 t275 _ ?side1 ?side2 ?side3 A4.out).mono ?_); (case side1 => repeat (first | exact HR0.out | (with_reducible refine Kd.C_alloc ?_ _) | (with_reducible refine Kd.C_drewN ?_ _) | (with_reducible refine Kd.C_drew ?_))); (case side2 => exact HC0.out); (case side3 => repeat (first | exact HRG.out | (with_reducible refine Kd.C_alloc ?_ _) | (with_reducible refine Kd.C_drewN ?_ _) | (with_reducible refine Kd.C_drew ?_))); rintro e w5 ⟨rfl, hb⟩; refine ⟨_, rfl, ?_⟩; replace HB := Aside0.mk (below_step bl_ hb); clear hb))
  go_ret2
  exact ⟨er_, bl_⟩
 replace c3 := Bool.eq_false_iff.mpr c3
 subst c3
 have H1 : (some ((⟨#[]⟩ : ByteArray), false)) = some (r1, r2) := by rw [if_neg (show ¬ (false = true) by decide)] at H; exact H
 clear H
 have H := H1
 clear H1
 simp only [Option.some.injEq, Prod.mk.injEq] at H
 obtain ⟨rfl, rfl⟩ := H
 go_enter Tryz.func47, Tryz.ntmps47
 go_wp2_with (first | ((with_reducible refine gate_callee (f := 74) rfl ?_); refine gL_ 6 Tryz.func74 #[.int .i64 (l0.length : Int)] ?_; (with_reducible refine (Ue.calls (l0.length : Int) false _ A2.out).mono ?_); rintro e w' ⟨rfl, ⟨nd, rfl⟩⟩; refine ⟨_, rfl, ?_⟩))
 go_ret2
 exact ⟨er_, bl_⟩

-- NOT PRINTED: function 108 (atomic_LoadUint32)

-- NOT PRINTED: function 99 (atomic_Bool_Load)

-- NOT PRINTED: function 79 (atomic_CompareAndSwapInt32)

-- NOT PRINTED: function 118 (race_Disable)

-- NOT PRINTED: function 119 (race_Enable)

-- NOT PRINTED: function 120 (race_Acquire)

-- NOT PRINTED: function 123 (atomic_AddInt32)

-- NOT PRINTED: function 125 (sync_runtime_canSpin)

-- NOT PRINTED: function 126 (sync_runtime_doSpin)

-- NOT PRINTED: function 127 (sync_throw)

-- NOT PRINTED: function 128 (sync_runtime_nanotime)

-- NOT PRINTED: function 129 (sync_runtime_SemacquireMutex)

-- NOT PRINTED: function 121 (sync_Mutex_lockSlow)

-- NOT PRINTED: function 114 (sync_Mutex_Lock_114)

-- NOT PRINTED: function 109 (sync_Mutex_Lock_109)

-- NOT PRINTED: function 122 (race_ReleaseMerge)

-- NOT PRINTED: function 130 (sync_fatal)

-- NOT PRINTED: function 131 (sync_runtime_Semrelease)

-- NOT PRINTED: function 124 (sync_Mutex_unlockSlow)

-- NOT PRINTED: function 115 (sync_Mutex_Unlock_115)

-- NOT PRINTED: function 110 (sync_Mutex_Unlock_110)

-- NOT PRINTED: function 116 (atomic_StoreUint32)

/-! ### atomic_b32 = atomic_b32: function 117 -/
-- NOT PRINTED: function 111 (atomic_Bool_Store)

-- NOT PRINTED: function 100 (sync_Once_doSlow)

-- NOT PRINTED: function 76 (sync_Once_Do)

/-! ### Uo = wots_leafs: function 81 -/
def Uo.f (k : Nat) (a0 : Int) : Option (ByteArray × Bool) := (Uj.f k a0).bind fun bt276 => (some (bt276.1, bt276.2))
set_option maxHeartbeats 64000000 in
set_option maxRecDepth 100000 in
theorem Uo.calls (k : Nat) (a0 : Int) (r1 : ByteArray) (r2 : Bool) (w : World) (h : Uo.f k a0 = some (r1, r2)) :
 Calls Tryz.prog 81 #[.int .i64 a0] w fun e w' => e = .returned (.tuple #[.string r1, .bool r2]) ∧ Below w.heap.size w w' := by
 have HB := Aside0.mk (Below.refl w.heap.size w)
 have H : ((Uj.f k a0).bind fun bt276 => (some (bt276.1, bt276.2))) = some (r1, r2) := h
 clear h
 replace H := ob_ H
 obtain ⟨⟨t276, t277⟩, A20, H⟩ := H
 replace H : (some (t276, t277)) = some (r1, r2) := H
 have A2 := Aside0.mk A20
 clear A20
 simp only [Option.some.injEq, Prod.mk.injEq] at H
 obtain ⟨rfl, rfl⟩ := H
 go_enter Tryz.func81, Tryz.ntmps81
 go_wp2_with (first | ((with_reducible refine gate_callee (f := 51) rfl ?_); refine gL_ 5 Tryz.func51 #[.int .i64 a0] ?_; (with_reducible refine (Uj.calls k a0 t276 t277 _ A2.out).mono ?_); rintro e w3 ⟨rfl, hb⟩; refine ⟨_, rfl, ?_⟩; replace HB := Aside0.mk (below_step bl_ hb); clear hb))
 go_ret2
 exact ⟨er_, bl_⟩

/-! ### Uk = octets_Byte: function 78 -/
def Uk.f (k : Nat) (a0 : Int) : Option (ByteArray × Bool) := (Jr.f k a0 1).bind fun bt278 => (some (bt278.1, bt278.2))
set_option maxHeartbeats 64000000 in
set_option maxRecDepth 100000 in
theorem Uk.calls (k : Nat) (a0 : Int) (r1 : ByteArray) (r2 : Bool) (w : World) (h : Uk.f k a0 = some (r1, r2)) :
 Calls Tryz.prog 78 #[.int .i64 a0] w fun e w' => e = .returned (.tuple #[.string r1, .bool r2]) ∧ Below w.heap.size w w' := by
 have HB := Aside0.mk (Below.refl w.heap.size w)
 have H : ((Jr.f k a0 1).bind fun bt278 => (some (bt278.1, bt278.2))) = some (r1, r2) := h
 clear h
 replace H := ob_ H
 obtain ⟨⟨t278, t279⟩, A20, H⟩ := H
 replace H : (some (t278, t279)) = some (r1, r2) := H
 have A2 := Aside0.mk A20
 clear A20
 simp only [Option.some.injEq, Prod.mk.injEq] at H
 obtain ⟨rfl, rfl⟩ := H
 go_enter Tryz.func78, Tryz.ntmps78
 go_wp2_with (first | ((with_reducible refine gate_callee (f := 80) rfl ?_); refine gL_ 5 Tryz.func80 #[.int .i64 a0, .int .i64 1] ?_; (with_reducible refine (Jr.calls k a0 1 t278 t279 _ A2.out).mono ?_); rintro e w3 ⟨rfl, hb⟩; refine ⟨_, rfl, ?_⟩; replace HB := Aside0.mk (below_step bl_ hb); clear hb))
 go_ret2
 exact ⟨er_, bl_⟩

/-! ### J9 = wots_Chain: function 90 -/
def J9.l0 : Nat → ByteArray → ByteArray → Int → Int → Option (ByteArray)
 | 0, _, _, _, _ => none
 | k + 1, x1, x7, x17, x18 => if x18 < x17 then ((J5.f k 1 (([x7, x1] : List ByteArray))).bind fun t285 => (J9.l0 k t285 x7 x17 (wrap64 (x18 + 1)))) else (some x1)
def J9.f (k : Nat) (a0 : Int) (a1 : ByteArray) (a2 : Int) : Option (ByteArray) := (Uk.f k (Go.bits .and .i64 a0 255)).bind fun bt280 => (J9.l0 k a1 bt280.1 (mn (mx a2 0) 1000) 0)
set_option maxHeartbeats 64000000 in
set_option maxRecDepth 100000 in
theorem J9.calls (k : Nat) (a0 : Int) (a1 : ByteArray) (a2 : Int) (r : ByteArray) (w : World) (hrG : Kd.C (Kd.int .u32) w (some ⟨0, 0, none⟩) keysL.length keysL) (h : J9.f k a0 a1 a2 = some r) :
 Calls Tryz.prog 90 #[.int .i64 a0, .string a1, .int .i64 a2] w fun e w' => e = .returned (.string r) ∧ Below w.heap.size w w' := by
 have HRG := Aside0.mk hrG
 clear hrG
 have HB := Aside0.mk (Below.refl w.heap.size w)
 have H : ((Uk.f k (Go.bits .and .i64 a0 255)).bind fun bt280 => (J9.l0 k a1 bt280.1 (mn (mx a2 0) 1000) 0)) = some r := h
 clear h
 replace H := ob_ H
 obtain ⟨⟨t280, t281⟩, A40, H⟩ := H
 replace H : (J9.l0 k a1 t280 (mn (mx a2 0) 1000) 0) = some r := H
 have A4 := Aside0.mk A40
 clear A40
 generalize hji5 : (mx a2 0) = ji5 at H
 (have hji5l : 0 ≤ ji5 := by (rw [← hji5]; unfold mx; (repeat' split) <;> omega))
 (have hji5m : 0 ≤ ji5 := by omega)
 have hji5_ : (if a2 < 0 then 0 else a2) = ji5 := hji5
 generalize hji6 : (mn (ji5) 1000) = ji6 at H
 have hji6_ : (if 1000 < (ji5) then 1000 else (ji5)) = ji6 := hji6
 have H' := Aside0.mk H
 clear H
 go_enter Tryz.func90, Tryz.ntmps90
 go_wp2_with (first | ((with_reducible refine gate_callee (f := 78) rfl ?_); refine gL_ 12 Tryz.func78 #[.int .i64 (Go.bits .and .i64 a0 255)] ?_; (with_reducible refine (Uk.calls k (Go.bits .and .i64 a0 255) t280 t281 _ A4.out).mono ?_); rintro e w7 ⟨rfl, hb⟩; refine ⟨_, rfl, ?_⟩; replace HB := Aside0.mk (below_step bl_ hb); clear hb))
 go_loopg [1, 18] k (fun kq v1 v18 w' => ∃ (x1_1 : ByteArray) (x18_1 : Int), v1 = .string x1_1 ∧ v18 = .int .i64 x18_1 ∧ Aside0 (J9.l0 kq x1_1 t280 ji6 x18_1 = some r) ∧ Aside0 (kq ≤ k) ∧ Aside0 (Below w.heap.size w w'))
 case atStart => exact ⟨(a1), (0), vq_, vq_, H', ⟨Nat.le_refl _⟩, ⟨bl_⟩⟩
 case round =>
  clear H'
  obtain ⟨x1_1, x18_1, rfl, rfl, HA, HK1, HB⟩ := hrel
  cases gk with
  | zero => exact absurd HA.out (by simp [J9.l0])
  | succ k1 =>
   have H := HA.out
   clear HA
   simp only [J9.l0] at H
   by_cases c8 : x18_1 < ji6
   ·rw [if_pos c8] at H
    have c8b0 : decide (x18_1 < ji6) = true := decide_eq_true c8
    clear c8
    generalize e_ : (([t280, x1_1] : List ByteArray) : List ByteArray) = y282 at H
    have Ny282 := Aside0.mk e_.symm
    clear e_
    revert H; refine oa_ fun t285 A9 H => ?_
    have H' := Aside0.mk H
    clear H
    go_wp2_with (first | ((with_reducible refine gate_dst (N := 22) rfl ?_); refine Kd.R_lit Kd.string _ 9 ?hg (N := 22) ?hd (xs := ([t280, x1_1] : List ByteArray)) (inner := [.string t280, .string x1_1]) (ok := fun _ => True) (okp := fun _ => True) ?hr ?hp (fun _ hk => hk) trivial (Below.refl _ _) (Nat.le_refl _) (by simp) ?_; (case hd => rfl); (case hg => rfl); (case hr => exact gr_); (case hp => exact (Reps.one (show Kd.M Kd.string _ _ _ t280 [.string t280] from rfl) (Reps.one (show Kd.M Kd.string _ _ _ x1_1 [.string x1_1] from rfl) (Reps.none _ _)))); intro v283 w10 ho11 hb hg_ hnew_; clear hg_ hnew_; (first | rw [← Ny282.out] at ho11 | (simp only [Int.reduceToNat] at ho11; rw [← Ny282.out] at ho11)); have HO284 := Aside0.mk (Kd.R_lower ho11 (below_size bl_)); replace HB := Aside0.mk (below_step bl_ hb); clear hb ho11; obtain ⟨Ao12, co12, eo12⟩ := Kd.R_slice HO284.out; subst eo12) | ((with_reducible refine gate_callee (f := 45) rfl ?_); refine gL_ 23 Tryz.func45 #[.int .i64 1, .slice Ao12 y282.length co12] ?_; (with_reducible refine (J5.calls k1 1 _ _ y282 t285 _ ?side1 ?side2 ?side3 A9.out).mono ?_); (case side1 => repeat (first | exact (Kd.R_reads' HO284.out).2.2 | (with_reducible refine Kd.C_alloc ?_ _) | (with_reducible refine Kd.C_drewN ?_ _) | (with_reducible refine Kd.C_drew ?_))); (case side2 => exact (Kd.R_reads' HO284.out).2.1); (case side3 => repeat (first | exact (Kd.C_below HRG.out HB.out) | (with_reducible refine Kd.C_alloc ?_ _) | (with_reducible refine Kd.C_drewN ?_ _) | (with_reducible refine Kd.C_drew ?_))); rintro e w13 ⟨rfl, hb⟩; refine ⟨_, rfl, ?_⟩; replace HB := Aside0.mk (below_step bl_ hb); replace HO284 := Aside0.mk (Kd.R_below (mv_ HO284.out) hb); clear hb))
    go_roundg k1
    case measure => have := HK1.out; omega
    case rel => exact ⟨(t285), (wrap64 (x18_1 + 1)), vq_, vq_, H', ⟨by have := HK1.out; omega⟩, ⟨bl_⟩⟩
   rw [if_neg c8] at H
   have c8b0 : decide (x18_1 < ji6) = false := decide_eq_false c8
   clear c8
   obtain rfl := Option.some.inj H
   go_wp2
   go_ret
   exact ⟨by first | rfl | (simp [errW_none, errW_some] <;> rfl) | (simp only [← hji5, ← hji6]; first | rfl | (simp [errW_none, errW_some] <;> rfl)) | (simp [*, errW_none, errW_some] <;> rfl), bl_⟩

/-! ### J6 = wots_Secret: function 102 -/
def J6.j0 : Nat → ByteArray → Int → ByteArray → Bool → Option (ByteArray × Bool)
 | 0, _, _, _, _ => none
 | k + 1, x0, x2, x8, x26 => if x26 = true then (some ((⟨#[]⟩ : ByteArray), false)) else ((Uk.f k x2).bind fun bt288 => ((J5.f k 2 (([x0, x8, bt288.1] : List ByteArray))).bind fun t293 => (some (t293, true))))
def J6.f (k : Nat) (a0 : ByteArray) (a1 : Int) (a2 : Int) : Option (ByteArray × Bool) := (Uo.f k a1).bind fun bt286 => (if bt286.2 = true then (if a2 < 0 then (J6.j0 k a0 a2 bt286.1 true) else (J6.j0 k a0 a2 bt286.1 (decide (a2 ≥ 67)))) else (J6.j0 k a0 a2 bt286.1 true))
set_option maxHeartbeats 64000000 in
set_option maxRecDepth 100000 in
theorem J6.calls (k : Nat) (a0 : ByteArray) (a1 : Int) (a2 : Int) (r1 : ByteArray) (r2 : Bool) (w : World) (hrG : Kd.C (Kd.int .u32) w (some ⟨0, 0, none⟩) keysL.length keysL) (h : J6.f k a0 a1 a2 = some (r1, r2)) :
 Calls Tryz.prog 102 #[.string a0, .int .i64 a1, .int .i64 a2] w fun e w' => e = .returned (.tuple #[.string r1, .bool r2]) ∧ Below w.heap.size w w' := by
 have HRG := Aside0.mk hrG
 clear hrG
 have HB := Aside0.mk (Below.refl w.heap.size w)
 have H : ((Uo.f k a1).bind fun bt286 => (if bt286.2 = true then (if a2 < 0 then (J6.j0 k a0 a2 bt286.1 true) else (J6.j0 k a0 a2 bt286.1 (decide (a2 ≥ 67)))) else (J6.j0 k a0 a2 bt286.1 true))) = some (r1, r2) := h
 clear h
 replace H := ob_ H
 obtain ⟨⟨t286, t287⟩, A40, H⟩ := H
 replace H : (if t287 = true then (if a2 < 0 then (J6.j0 k a0 a2 t286 true) else (J6.j0 k a0 a2 t286 (decide (a2 ≥ 67)))) else (J6.j0 k a0 a2 t286 true)) = some (r1, r2) := H
 have A4 := Aside0.mk A40
 clear A40
 have HC5 := Aside0.mk H
 clear H
 go_enter Tryz.func102, Tryz.ntmps102
 go_upto_region 2 with (first | ((with_reducible refine gate_callee (f := 81) rfl ?_); refine gL_ 14 Tryz.func81 #[.int .i64 a1] ?_; (with_reducible refine (Uo.calls k a1 t286 t287 _ A4.out).mono ?_); rintro e w6 ⟨rfl, hb⟩; refine ⟨_, rfl, ?_⟩; replace HB := Aside0.mk (below_step bl_ hb); clear hb))
 go_cut [26] (fun v26 wc => ∃ (kq : Nat) (x26_4 : Bool), v26 = .bool x26_4 ∧ Aside0 (J6.j0 kq a0 a2 t286 x26_4 = some (r1, r2)) ∧ Aside0 (kq ≤ k) ∧ Aside0 (Below w.heap.size w wc))
 case first =>
  have H := HC5.out
  clear HC5
  by_cases c7 : t287 = true
  ·subst c7
   have H1 : (if a2 < 0 then (J6.j0 k a0 a2 t286 true) else (J6.j0 k a0 a2 t286 (decide (a2 ≥ 67)))) = some (r1, r2) := by rw [if_pos rfl] at H; exact H
   clear H
   have H := H1
   clear H1
   by_cases c8 : a2 < 0
   ·rw [if_pos c8] at H
    have c8b0 : decide (a2 < 0) = true := decide_eq_true c8
    clear c8
    (first | rw [c8b0] | (simp only [i64_w, i32_w]; rw [c8b0]) | skip)
    have H' := Aside0.mk H
    clear H
    go_wp2
    go_meet
    case rel => exact ⟨_, (true), vq_, H', ⟨by first | omega | exact Nat.le_refl _⟩, ⟨bl_⟩⟩
   rw [if_neg c8] at H
   have c8b0 : decide (a2 < 0) = false := decide_eq_false c8
   clear c8
   (first | rw [c8b0] | (simp only [i64_w, i32_w]; rw [c8b0]) | skip)
   have H' := Aside0.mk H
   clear H
   go_wp2
   go_meet
   case rel => exact ⟨_, (decide (a2 ≥ 67)), vq_, H', ⟨by first | omega | exact Nat.le_refl _⟩, ⟨bl_⟩⟩
  replace c7 := Bool.eq_false_iff.mpr c7
  subst c7
  have H1 : (J6.j0 k a0 a2 t286 true) = some (r1, r2) := by rw [if_neg (show ¬ (false = true) by decide)] at H; exact H
  clear H
  have H := H1
  clear H1
  have H' := Aside0.mk H
  clear H
  go_wp2
  go_meet
  case rel => exact ⟨_, (true), vq_, H', ⟨by first | omega | exact Nat.le_refl _⟩, ⟨bl_⟩⟩
 case rest =>
  clear HC5
  obtain ⟨kq, x26_4, rfl, HA, HJ4, HB⟩ := hcut
  cases kq with
  | zero => exact absurd HA.out (by simp [J6.j0])
  | succ kj4 =>
   have H := HA.out
   clear HA
   simp only [J6.j0] at H
   by_cases c9 : x26_4 = true
   ·subst c9
    have H1 : (some ((⟨#[]⟩ : ByteArray), false)) = some (r1, r2) := by rw [if_pos rfl] at H; exact H
    clear H
    have H := H1
    clear H1
    simp only [Option.some.injEq, Prod.mk.injEq] at H
    obtain ⟨rfl, rfl⟩ := H
    go_wp2
    go_ret2
    exact ⟨er_, bl_⟩
   replace c9 := Bool.eq_false_iff.mpr c9
   subst c9
   have H1 : ((Uk.f kj4 a2).bind fun bt288 => ((J5.f kj4 2 (([a0, t286, bt288.1] : List ByteArray))).bind fun t293 => (some (t293, true)))) = some (r1, r2) := by rw [if_neg (show ¬ (false = true) by decide)] at H; exact H
   clear H
   have H := H1
   clear H1
   replace H := ob_ H
   obtain ⟨⟨t288, t289⟩, A100, H⟩ := H
   replace H : ((J5.f kj4 2 (([a0, t286, t288] : List ByteArray))).bind fun t293 => (some (t293, true))) = some (r1, r2) := H
   have A10 := Aside0.mk A100
   clear A100
   generalize e_ : (([a0, t286, t288] : List ByteArray) : List ByteArray) = y290 at H
   have Ny290 := Aside0.mk e_.symm
   clear e_
   revert H; refine oa_ fun t293 A11 H => ?_
   simp only [Option.some.injEq, Prod.mk.injEq] at H
   obtain ⟨rfl, rfl⟩ := H
   go_wp2_with (first | ((with_reducible refine gate_callee (f := 78) rfl ?_); refine gL_ 29 Tryz.func78 #[.int .i64 a2] ?_; (with_reducible refine (Uk.calls kj4 a2 t288 t289 _ A10.out).mono ?_); rintro e w12 ⟨rfl, hb⟩; refine ⟨_, rfl, ?_⟩; replace HB := Aside0.mk (below_step bl_ hb); clear hb) | ((with_reducible refine gate_dst (N := 35) rfl ?_); refine Kd.R_lit Kd.string _ 9 ?hg (N := 35) ?hd (xs := ([a0, t286, t288] : List ByteArray)) (inner := [.string a0, .string t286, .string t288]) (ok := fun _ => True) (okp := fun _ => True) ?hr ?hp (fun _ hk => hk) trivial (Below.refl _ _) (Nat.le_refl _) (by simp) ?_; (case hd => rfl); (case hg => rfl); (case hr => exact gr_); (case hp => exact (Reps.one (show Kd.M Kd.string _ _ _ a0 [.string a0] from rfl) (Reps.one (show Kd.M Kd.string _ _ _ t286 [.string t286] from rfl) (Reps.one (show Kd.M Kd.string _ _ _ t288 [.string t288] from rfl) (Reps.none _ _))))); intro v291 w13 ho14 hb hg_ hnew_; clear hg_ hnew_; (first | rw [← Ny290.out] at ho14 | (simp only [Int.reduceToNat] at ho14; rw [← Ny290.out] at ho14)); have HO292 := Aside0.mk (Kd.R_lower ho14 (below_size bl_)); replace HB := Aside0.mk (below_step bl_ hb); clear hb ho14; obtain ⟨Ao15, co15, eo15⟩ := Kd.R_slice HO292.out; subst eo15) | ((with_reducible refine gate_callee (f := 45) rfl ?_); refine gL_ 36 Tryz.func45 #[.int .i64 2, .slice Ao15 y290.length co15] ?_; (with_reducible refine (J5.calls kj4 2 _ _ y290 t293 _ ?side1 ?side2 ?side3 A11.out).mono ?_); (case side1 => repeat (first | exact (Kd.R_reads' HO292.out).2.2 | (with_reducible refine Kd.C_alloc ?_ _) | (with_reducible refine Kd.C_drewN ?_ _) | (with_reducible refine Kd.C_drew ?_))); (case side2 => exact (Kd.R_reads' HO292.out).2.1); (case side3 => repeat (first | exact (Kd.C_below HRG.out HB.out) | (with_reducible refine Kd.C_alloc ?_ _) | (with_reducible refine Kd.C_drewN ?_ _) | (with_reducible refine Kd.C_drew ?_))); rintro e w16 ⟨rfl, hb⟩; refine ⟨_, rfl, ?_⟩; replace HB := Aside0.mk (below_step bl_ hb); replace HO292 := Aside0.mk (Kd.R_below (mv_ HO292.out) hb); clear hb))
   go_ret2
   exact ⟨er_, bl_⟩

/-! ### Ua = wots_values: function 83 -/
def Ua.l0 : Nat → ByteArray → Int → List Int → List ByteArray → Int → Option (List ByteArray)
 | 0, _, _, _, _, _ => none
 | k + 1, x0, x1, x2, x7, x11 => if x11 < 67 then ((J6.f k x0 x1 x11).bind fun bt294 => (if 0 ≤ x11 then (if x11 < (x2.length : Int) then ((J9.f k x11 bt294.1 (rd x2 x11)).bind fun t296 => (if x7.length < 8796093022208 then (Ua.l0 k x0 x1 x2 (x7 ++ [t296]) (wrap64 (x11 + 1))) else (none))) else (none)) else (none))) else (some x7)
def Ua.f (k : Nat) (a0 : ByteArray) (a1 : Int) (a2 : List Int) : Option (List ByteArray) := Ua.l0 k a0 a1 a2 ([] : List ByteArray) 0
set_option maxHeartbeats 64000000 in
set_option maxRecDepth 100000 in
theorem Ua.calls (k : Nat) (a0 : ByteArray) (a1 : Int) (F2 : Value) (a2 : List Int) (r : List ByteArray) (w : World) (hF2 : FV Tryz.prog w F2 a2) (hrG : Kd.C (Kd.int .u32) w (some ⟨0, 0, none⟩) keysL.length keysL) (h : Ua.f k a0 a1 a2 = some r) :
 Calls Tryz.prog 83 #[.string a0, .int .i64 a1, F2] w fun e w' => ∃ v0_ : Value, e = .returned (v0_) ∧ Kd.R Kd.string 9 w' w.heap.size (fun _ => True) v0_ r ∧ Below w.heap.size w w' := by
 have HF := Aside0.mk hF2
 clear hF2
 have HRG := Aside0.mk hrG
 clear hrG
 have HB := Aside0.mk (Below.refl w.heap.size w)
 have H : (Ua.l0 k a0 a1 a2 ([] : List ByteArray) 0) = some r := h
 clear h
 have H' := Aside0.mk H
 clear H
 go_enter Tryz.func83, Tryz.ntmps83
 go_wp2
 go_loopg [7, 11] k (fun kq v7 v11 w' => ∃ (x7_1 : List ByteArray) (x11_1 : Int), v11 = .int .i64 x11_1 ∧ Aside0 (Ua.l0 kq a0 a1 a2 x7_1 x11_1 = some r) ∧ Aside0 (kq ≤ k) ∧ Aside0 (Kd.R Kd.string 9 w' w.heap.size (fun _ => True) v7 x7_1) ∧ Aside0 (Below w.heap.size w w'))
 case atStart => exact ⟨(([] : List ByteArray)), (0), vq_, H', ⟨Nat.le_refl _⟩, ⟨by first | exact Kd.R_nil _ _ _ _ _ | exact Kd.N_nil _ _ _ _ _ | exact Kd.V_nil _ _ _ _ _ | exact Kd.Q_nil _ _ _ _ _ | exact Kd.S_nil _ _ _ _ _⟩, ⟨bl_⟩⟩
 case round =>
  clear H'
  obtain ⟨x7_1, x11_1, rfl, HA, HK1, HO_7, HB⟩ := hrel
  cases gk with
  | zero => exact absurd HA.out (by simp [Ua.l0])
  | succ k1 =>
   have H := HA.out
   clear HA
   simp only [Ua.l0] at H
   by_cases c4 : x11_1 < 67
   ·rw [if_pos c4] at H
    have c4b0 : decide (x11_1 < 67) = true := decide_eq_true c4
    clear c4
    replace H := ob_ H
    obtain ⟨⟨t294, t295⟩, A50, H⟩ := H
    replace H : (if 0 ≤ x11_1 then (if x11_1 < (a2.length : Int) then ((J9.f k1 x11_1 t294 (rd a2 x11_1)).bind fun t296 => (if x7_1.length < 8796093022208 then (Ua.l0 k1 a0 a1 a2 (x7_1 ++ [t296]) (wrap64 (x11_1 + 1))) else (none))) else (none)) else (none)) = some r := H
    have A5 := Aside0.mk A50
    clear A50
    revert H; refine nd_ fun c6 c6b0 => nd_ fun c7 c7b0 => oa_ fun t296 A8 => nc_ fun c9 H => ?_
    have LMc9 := Aside0.mk c9
    clear c6 c7 c9
    generalize e_ : (x7_1 ++ [t296] : List ByteArray) = y297 at H
    have Ny297 := Aside0.mk e_.symm
    clear e_
    have H' := Aside0.mk H
    clear H
    go_wp2_with (first | ((with_reducible refine gate_callee (f := 102) rfl ?_); refine gL_ 18 Tryz.func102 #[.string a0, .int .i64 a1, .int .i64 x11_1] ?_; (with_reducible refine (J6.calls k1 a0 a1 x11_1 t294 t295 _ ?side1 A5.out).mono ?_); (case side1 => repeat (first | exact (Kd.C_below HRG.out HB.out) | (with_reducible refine Kd.C_alloc ?_ _) | (with_reducible refine Kd.C_drewN ?_ _) | (with_reducible refine Kd.C_drew ?_))); rintro e w10 ⟨rfl, hb⟩; refine ⟨_, rfl, ?_⟩; replace HB := Aside0.mk (below_step bl_ hb); replace HO_7 := Aside0.mk (Kd.R_below (mv_ HO_7.out) hb); clear hb; have p11 : 0 ≤ (x11_1 : Int) := ae_; have q11 : (x11_1 : Int) < (a2.length : Int) := ae_) | ((with_reducible refine gate_dst (N := 26) rfl ?_); refine fv_event (P := Tryz.prog) rfl (N := 26) rfl (.tmp 24) (.tmp 25) rfl HF.out rfl rfl p11 q11 bl_ ?_; intro w12 hb; replace HB := Aside0.mk (below_step bl_ hb); replace HO_7 := Aside0.mk (Kd.R_below (mv_ HO_7.out) hb); clear hb p11 q11) | ((with_reducible refine gate_callee (f := 90) rfl ?_); refine gL_ 27 Tryz.func90 #[.int .i64 x11_1, .string t294, .int .i64 (rd a2 x11_1)] ?_; (with_reducible refine (J9.calls k1 x11_1 t294 (rd a2 x11_1) t296 _ ?side1 A8.out).mono ?_); (case side1 => repeat (first | exact (Kd.C_below HRG.out HB.out) | (with_reducible refine Kd.C_alloc ?_ _) | (with_reducible refine Kd.C_drewN ?_ _) | (with_reducible refine Kd.C_drew ?_))); rintro e w13 ⟨rfl, hb⟩; refine ⟨_, rfl, ?_⟩; replace HB := Aside0.mk (below_step bl_ hb); replace HO_7 := Aside0.mk (Kd.R_below (mv_ HO_7.out) hb); clear hb) | ((with_reducible refine gate_builtin (b := .append) (xs := #[.tmp 21, .tmp 28]) rfl ?_); at_builtin; refine Kd.R_append Kd.string (w0 := w) w.heap.size rfl (.tmp 21) (.tmp 28) 22 9 (.string ⟨#[]⟩) 16 rfl Tryz.underlying22 info9 rfl (by decide) (by omega) u7 x7_1 t296 [.string t296] (fun _ => True) (fun _ => False) rfl rfl ?aP (fun _ hk => hk.elim) ?aF ?aO ?aB ?aS ?aL ?_; (case aP => exact rfl); (case aB => exact bl_); (case aF => exact (fun _ _ => trivial)); (case aO => exact (mv_ HO_7.out)); (case aS => exact (below_size bl_)); (case aL => have := LMc9.out; omega); intro v298 w14 ho hb hg hat; rw [← Ny297.out] at ho; have HO299 := Aside0.mk (ho); replace HB := Aside0.mk (hb); clear HO_7; clear ho hb hg hat))
    go_roundg k1
    case measure => have := HK1.out; omega
    case rel => exact ⟨(y297), (wrap64 (x11_1 + 1)), vq_, H', ⟨by have := HK1.out; omega⟩, ⟨mv_ HO299.out⟩, ⟨bl_⟩⟩
   rw [if_neg c4] at H
   have c4b0 : decide (x11_1 < 67) = false := decide_eq_false c4
   clear c4
   obtain rfl := Option.some.inj H
   go_wp2
   go_ret
   exact ⟨_, er_, mv_ HO_7.out, bl_⟩

/-! ### Uv = wots_Public: function 101 (walked by hand) -/
def Uv.f (k : Nat) (a0 : ByteArray) (a1 : Int) : Option (ByteArray × Bool) :=
  (Uo.f k a1).bind fun b => if b.2 = true then ((Ua.f k a0 a1 (List.replicate 67 15)).bind fun l => ((J5.f k 3 l).bind fun t => some (t, true))) else (some ((⟨#[]⟩ : ByteArray), false))
theorem Uv.rep (i : Int) (h0 : 0 ≤ i) (h1 : i < ((List.replicate 67 (15 : Int)).length : Int)) : rd (List.replicate 67 15) i = 15 := by
  rw [List.length_replicate] at h1
  have h2 : i.toNat < 67 := by omega
  unfold rd
  rw [List.getD_eq_getElem?_getD, List.getElem?_replicate, if_pos h2]
  rfl
set_option maxHeartbeats 8000000 in
theorem Uv.fv (w : World) : FV Tryz.prog w (.func (.func 112) #[] #[]) (List.replicate 67 15) := by
  refine ⟨112, Tryz.f112, #[], rfl, Tryz.func112, by kernel_rfl, rfl, fun i W h0 h1 hb => ?_⟩
  rw [Uv.rep i h0 h1]
  show Calls Tryz.prog 112 #[.int .i64 i] W _
  clear h0 h1 hb
  go_enter Tryz.func112, Tryz.ntmps112
  go_wp2
  go_ret
  exact ⟨rfl, Below.refl _ _⟩
set_option maxHeartbeats 8000000 in
set_option maxRecDepth 100000 in
theorem Uv.calls (k : Nat) (a0 : ByteArray) (a1 : Int) (r1 : ByteArray) (r2 : Bool) (w : World) (hrG : Kd.C (Kd.int .u32) w (some ⟨0, 0, none⟩) keysL.length keysL) (h : Uv.f k a0 a1 = some (r1, r2)) :
    Calls Tryz.prog 101 #[.string a0, .int .i64 a1] w fun e w' => e = .returned (.tuple #[.string r1, .bool r2]) ∧ Below w.heap.size w w' := by
  have HRG := Aside0.mk hrG
  clear hrG
  unfold Uv.f at h
  replace h := Option.bind_eq_some_iff.mp h
  obtain ⟨⟨n, ok⟩, hL, h⟩ := h
  cases ok with
  | false =>
    replace h : some ((⟨#[]⟩ : ByteArray), false) = some (r1, r2) := h
    simp only [Option.some.injEq, Prod.mk.injEq] at h
    obtain ⟨rfl, rfl⟩ := h
    have HL := Aside0.mk hL
    clear hL
    go_enter Tryz.func101, Tryz.ntmps101
    go_wp2_with (first | (go_at_call 81; (with_reducible refine (Uo.calls k _ n false _ HL.out).mono ?_); rintro e w1 ⟨rfl, hb⟩; have HB := Aside0.mk hb; clear hb))
    go_ret2
    exact ⟨rfl, HB.out⟩
  | true =>
    replace h : ((Ua.f k a0 a1 (List.replicate 67 15)).bind fun l => ((J5.f k 3 l).bind fun t => some (t, true))) = some (r1, r2) := h
    replace h := Option.bind_eq_some_iff.mp h
    obtain ⟨l, hV, h⟩ := h
    replace h := Option.bind_eq_some_iff.mp h
    obtain ⟨t, hT, h⟩ := h
    simp only [Option.some.injEq, Prod.mk.injEq] at h
    obtain ⟨rfl, rfl⟩ := h
    have HL := Aside0.mk hL
    have HV := Aside0.mk hV
    have HT := Aside0.mk hT
    clear hL hV hT
    go_enter Tryz.func101, Tryz.ntmps101
    go_wp2_with (first | (go_at_call 81; (with_reducible refine (Uo.calls k _ n true _ HL.out).mono ?_); rintro e w1 ⟨rfl, hb⟩; have HB := Aside0.mk hb; clear hb) | (go_at_call 83; (refine (Ua.calls k _ _ _ _ l _ (Uv.fv _) (Kd.C_below HRG.out HB.out) HV.out).mono ?_); rintro e w2 ⟨v, rfl, ho, hb⟩; have n1_ := Aside0.mk (below_step HB.out hb); clear HB; have HB := n1_; clear n1_; obtain ⟨A1, c1, rfl, hc1, hC1⟩ := Kd.R_reads ho; have HC1 := Aside0.mk hc1; have HR1 := Aside0.mk hC1; clear hc1 hC1 ho hb) | (go_at_call 45; (refine (J5.calls k 3 A1 c1 l t _ HR1.out HC1.out (Kd.C_below HRG.out HB.out) HT.out).mono ?_); rintro e w3 ⟨rfl, hb⟩; have n1_ := Aside0.mk (below_step HB.out hb); clear HB; have HB := n1_; clear n1_ hb))
    go_ret2
    exact ⟨rfl, HB.out⟩

-- NOT PRINTED: function 77 (key_Key_plant)

-- NOT PRINTED: function 48 (key_Key_tree)

/-! ### Uw = key_named: function 49 -/
def Uw.f (k : Nat) (a0 : Int) (a1 : ByteArray) : Option (ByteArray) := (Uk.f k a0).bind fun bt300 => ((J5.f k 5 (([bt300.1, a1] : List ByteArray))).bind fun t305 => (some t305))
set_option maxHeartbeats 64000000 in
set_option maxRecDepth 100000 in
theorem Uw.calls (k : Nat) (a0 : Int) (a1 : ByteArray) (r : ByteArray) (w : World) (hrG : Kd.C (Kd.int .u32) w (some ⟨0, 0, none⟩) keysL.length keysL) (h : Uw.f k a0 a1 = some r) :
 Calls Tryz.prog 49 #[.int .i64 a0, .string a1] w fun e w' => e = .returned (.string r) ∧ Below w.heap.size w w' := by
 have HRG := Aside0.mk hrG
 clear hrG
 have HB := Aside0.mk (Below.refl w.heap.size w)
 have H : ((Uk.f k a0).bind fun bt300 => ((J5.f k 5 (([bt300.1, a1] : List ByteArray))).bind fun t305 => (some t305))) = some r := h
 clear h
 replace H := ob_ H
 obtain ⟨⟨t300, t301⟩, A30, H⟩ := H
 replace H : ((J5.f k 5 (([t300, a1] : List ByteArray))).bind fun t305 => (some t305)) = some r := H
 have A3 := Aside0.mk A30
 clear A30
 generalize e_ : (([t300, a1] : List ByteArray) : List ByteArray) = y302 at H
 have Ny302 := Aside0.mk e_.symm
 clear e_
 revert H; refine oa_ fun t305 A4 H => ?_
 obtain rfl := Option.some.inj H
 go_enter Tryz.func49, Tryz.ntmps49
 go_wp2_with (first | ((with_reducible refine gate_callee (f := 78) rfl ?_); refine gL_ 9 Tryz.func78 #[.int .i64 a0] ?_; (with_reducible refine (Uk.calls k a0 t300 t301 _ A3.out).mono ?_); rintro e w5 ⟨rfl, hb⟩; refine ⟨_, rfl, ?_⟩; replace HB := Aside0.mk (below_step bl_ hb); clear hb) | ((with_reducible refine gate_dst (N := 14) rfl ?_); refine Kd.R_lit Kd.string _ 9 ?hg (N := 14) ?hd (xs := ([t300, a1] : List ByteArray)) (inner := [.string t300, .string a1]) (ok := fun _ => True) (okp := fun _ => True) ?hr ?hp (fun _ hk => hk) trivial (Below.refl _ _) (Nat.le_refl _) (by simp) ?_; (case hd => rfl); (case hg => rfl); (case hr => exact gr_); (case hp => exact (Reps.one (show Kd.M Kd.string _ _ _ t300 [.string t300] from rfl) (Reps.one (show Kd.M Kd.string _ _ _ a1 [.string a1] from rfl) (Reps.none _ _)))); intro v303 w6 ho7 hb hg_ hnew_; clear hg_ hnew_; (first | rw [← Ny302.out] at ho7 | (simp only [Int.reduceToNat] at ho7; rw [← Ny302.out] at ho7)); have HO304 := Aside0.mk (Kd.R_lower ho7 (below_size bl_)); replace HB := Aside0.mk (below_step bl_ hb); clear hb ho7; obtain ⟨Ao8, co8, eo8⟩ := Kd.R_slice HO304.out; subst eo8) | ((with_reducible refine gate_callee (f := 45) rfl ?_); refine gL_ 15 Tryz.func45 #[.int .i64 5, .slice Ao8 y302.length co8] ?_; (with_reducible refine (J5.calls k 5 _ _ y302 t305 _ ?side1 ?side2 ?side3 A4.out).mono ?_); (case side1 => repeat (first | exact (Kd.R_reads' HO304.out).2.2 | (with_reducible refine Kd.C_alloc ?_ _) | (with_reducible refine Kd.C_drewN ?_ _) | (with_reducible refine Kd.C_drew ?_))); (case side2 => exact (Kd.R_reads' HO304.out).2.1); (case side3 => repeat (first | exact (Kd.C_below HRG.out HB.out) | (with_reducible refine Kd.C_alloc ?_ _) | (with_reducible refine Kd.C_drewN ?_ _) | (with_reducible refine Kd.C_drew ?_))); rintro e w9 ⟨rfl, hb⟩; refine ⟨_, rfl, ?_⟩; replace HB := Aside0.mk (below_step bl_ hb); replace HO304 := Aside0.mk (Kd.R_below (mv_ HO304.out) hb); clear hb))
 go_ret
 exact ⟨er_, bl_⟩

-- NOT PRINTED: function 23 (key_Key_Public)

/-! ### Ut = event_Content: function 24 -/
def Ut.f (k : Nat) (a0_0 : Int) (a0_1 : ByteArray) (l0_2 : List ByteArray) (a0_3 : ByteArray) (a0_4 : ByteArray) : Option (ByteArray × Int) := (Jp.f k a0_0 a0_1 l0_2 a0_3 (⟨#[]⟩ : ByteArray)).bind fun t307 => (if t307 = true then ((Jo.f k a0_0 a0_1 l0_2 a0_3 (⟨#[]⟩ : ByteArray)).bind fun t308 => (some (t308, 0))) else (some ((⟨#[]⟩ : ByteArray), 2)))
set_option maxHeartbeats 64000000 in
set_option maxRecDepth 100000 in
theorem Ut.calls (k : Nat) (a0_0 : Int) (a0_1 : ByteArray) (A0_2 : Option Addr) (c0_2 : Nat) (l0_2 : List ByteArray) (a0_3 : ByteArray) (a0_4 : ByteArray) (r1 : ByteArray) (r2 : Int) (w : World) (hr0_2 : Kd.C Kd.string w A0_2 l0_2.length l0_2) (hc0_2 : l0_2.length ≤ c0_2) (h : Ut.f k a0_0 a0_1 l0_2 a0_3 a0_4 = some (r1, r2)) :
 Calls Tryz.prog 24 #[.agg #[.int .i64 a0_0, .string a0_1, .slice A0_2 l0_2.length c0_2, .string a0_3, .string a0_4]] w fun e w' => e = .returned (.tuple #[.string r1, .int .i64 r2]) ∧ Below w.heap.size w w' := by
 have hu24 := Tryz.underlying24
 have HR0_2 := Aside0.mk hr0_2
 have HC0_2 := Aside0.mk hc0_2
 clear hr0_2 hc0_2
 have HB := Aside0.mk (Below.refl w.heap.size w)
 have H : ((Jp.f k a0_0 a0_1 l0_2 a0_3 (⟨#[]⟩ : ByteArray)).bind fun t307 => (if t307 = true then ((Jo.f k a0_0 a0_1 l0_2 a0_3 (⟨#[]⟩ : ByteArray)).bind fun t308 => (some (t308, 0))) else (some ((⟨#[]⟩ : ByteArray), 2)))) = some (r1, r2) := h
 clear h
 revert H; refine oa_ fun t307 A2 H => ?_
 by_cases c3 : t307 = true
 ·subst c3
  have H1 : ((Jo.f k a0_0 a0_1 l0_2 a0_3 (⟨#[]⟩ : ByteArray)).bind fun t308 => (some (t308, 0))) = some (r1, r2) := by rw [if_pos rfl] at H; exact H
  clear H
  have H := H1
  clear H1
  revert H; refine oa_ fun t308 A4 H => ?_
  simp only [Option.some.injEq, Prod.mk.injEq] at H
  obtain ⟨rfl, rfl⟩ := H
  go_enter Tryz.func24, Tryz.ntmps24
  go_wp2_with (first | ((with_reducible refine gate_dst (N := 1) rfl ?_); refine box_event ?hg (N := 1) ?hd (cs := #[.int .i64 a0_0, .string a0_1, .slice A0_2 l0_2.length c0_2, .string a0_3, .string a0_4]) (t := 24) ?hr ?_; (case hd => rfl); (case hg => rfl); (case hr => exact gr_); intro gb306 hg w5 hbox hb; have GE306 := Aside0.mk ((by rw [hg]; exact (below_size bl_) : w.heap.size ≤ gb306)); have GW306 := Aside0.mk ((by rw [hg]; exact (below_size bl_) : w.heap.size ≤ gb306)); have BK306 := Aside0.mk (hbox); replace HB := Aside0.mk (below_step bl_ hb); clear hb hbox hg; obtain ⟨hcz6_0, hcz6_1, hcz6_2, hcz6_3, hcz6_4⟩ := c5_ BK306.out; obtain ⟨hfz6_0, hfz6_1, hfz6_2, hfz6_3, hfz6_4⟩ := f5_ BK306.out) | ((with_reducible refine gate_callee (f := 27) rfl ?_); refine gL_ 6 Tryz.func27 #[.agg #[.int .i64 a0_0, .string a0_1, .slice A0_2 l0_2.length c0_2, .string a0_3, .string ⟨#[]⟩]] ?_; (with_reducible refine (Jp.calls k a0_0 a0_1 _ _ l0_2 a0_3 (⟨#[]⟩ : ByteArray) true _ ?side1 ?side2 A2.out).mono ?_); (case side1 => exact Kd.C_below HR0_2.out (bs_ GE306.out)); (case side2 => exact HC0_2.out); rintro e w7 ⟨rfl, hb⟩; refine ⟨_, rfl, ?_⟩; replace HB := Aside0.mk (below_step (bs_ GE306.out) hb); replace BK306 := Aside0.mk (blk_below (g := gb306) (o := .cells #[.int .i64 a0_0, .string a0_1, .slice A0_2 l0_2.length c0_2, .string a0_3, .string ⟨#[]⟩] 24 (0, 0)) (by refine mb_ ?_; refine blk_put (cs := #[.int .i64 a0_0, .string a0_1, .slice A0_2 l0_2.length c0_2, .string a0_3, .string a0_4]) ?_ 4 _ rfl; refine mb_ ?_; exact BK306.out) hb); clear hb; obtain ⟨hcz8_0, hcz8_1, hcz8_2, hcz8_3, hcz8_4⟩ := c5_ BK306.out; obtain ⟨hfz8_0, hfz8_1, hfz8_2, hfz8_3, hfz8_4⟩ := f5_ BK306.out) | ((with_reducible refine gate_callee (f := 44) rfl ?_); refine gL_ 9 Tryz.func44 #[.agg #[.int .i64 a0_0, .string a0_1, .slice A0_2 l0_2.length c0_2, .string a0_3, .string ⟨#[]⟩]] ?_; (with_reducible refine (Jo.calls k a0_0 a0_1 _ _ l0_2 a0_3 (⟨#[]⟩ : ByteArray) t308 _ ?side1 ?side2 A4.out).mono ?_); (case side1 => repeat (first | exact (Kd.C_below HR0_2.out HB.out) | (with_reducible refine Kd.C_alloc ?_ _) | (with_reducible refine Kd.C_drewN ?_ _) | (with_reducible refine Kd.C_drew ?_))); (case side2 => exact HC0_2.out); rintro e w9 ⟨rfl, hb⟩; refine ⟨_, rfl, ?_⟩; replace HB := Aside0.mk (below_step (bs_ GE306.out) hb); replace BK306 := Aside0.mk (blk_below (g := gb306) (o := .cells #[.int .i64 a0_0, .string a0_1, .slice A0_2 l0_2.length c0_2, .string a0_3, .string ⟨#[]⟩] 24 (0, 0)) (mb_ BK306.out) hb); clear hb))
  go_ret2
  exact ⟨er_, bs_ GE306.out⟩
 replace c3 := Bool.eq_false_iff.mpr c3
 subst c3
 have H1 : (some ((⟨#[]⟩ : ByteArray), 2)) = some (r1, r2) := by rw [if_neg (show ¬ (false = true) by decide)] at H; exact H
 clear H
 have H := H1
 clear H1
 simp only [Option.some.injEq, Prod.mk.injEq] at H
 obtain ⟨rfl, rfl⟩ := H
 go_enter Tryz.func24, Tryz.ntmps24
 go_wp2_with (first | ((with_reducible refine gate_dst (N := 1) rfl ?_); refine box_event ?hg (N := 1) ?hd (cs := #[.int .i64 a0_0, .string a0_1, .slice A0_2 l0_2.length c0_2, .string a0_3, .string a0_4]) (t := 24) ?hr ?_; (case hd => rfl); (case hg => rfl); (case hr => exact gr_); intro gb306 hg w10 hbox hb; have GE306 := Aside0.mk ((by rw [hg]; exact (below_size bl_) : w.heap.size ≤ gb306)); have GW306 := Aside0.mk ((by rw [hg]; exact (below_size bl_) : w.heap.size ≤ gb306)); have BK306 := Aside0.mk (hbox); replace HB := Aside0.mk (below_step bl_ hb); clear hb hbox hg; obtain ⟨hcz11_0, hcz11_1, hcz11_2, hcz11_3, hcz11_4⟩ := c5_ BK306.out; obtain ⟨hfz11_0, hfz11_1, hfz11_2, hfz11_3, hfz11_4⟩ := f5_ BK306.out) | ((with_reducible refine gate_callee (f := 27) rfl ?_); refine gL_ 6 Tryz.func27 #[.agg #[.int .i64 a0_0, .string a0_1, .slice A0_2 l0_2.length c0_2, .string a0_3, .string ⟨#[]⟩]] ?_; (with_reducible refine (Jp.calls k a0_0 a0_1 _ _ l0_2 a0_3 (⟨#[]⟩ : ByteArray) false _ ?side1 ?side2 A2.out).mono ?_); (case side1 => exact Kd.C_below HR0_2.out (bs_ GE306.out)); (case side2 => exact HC0_2.out); rintro e w12 ⟨rfl, hb⟩; refine ⟨_, rfl, ?_⟩; replace HB := Aside0.mk (below_step (bs_ GE306.out) hb); replace BK306 := Aside0.mk (blk_below (g := gb306) (o := .cells #[.int .i64 a0_0, .string a0_1, .slice A0_2 l0_2.length c0_2, .string a0_3, .string ⟨#[]⟩] 24 (0, 0)) (by refine mb_ ?_; refine blk_put (cs := #[.int .i64 a0_0, .string a0_1, .slice A0_2 l0_2.length c0_2, .string a0_3, .string a0_4]) ?_ 4 _ rfl; refine mb_ ?_; exact BK306.out) hb); clear hb))
 go_ret2
 exact ⟨er_, bs_ GE306.out⟩

-- NOT PRINTED: function 65 (atomic_LoadInt32)

-- NOT PRINTED: function 40 (atomic_Int32_Load)

-- NOT PRINTED: function 50 (atomic_Int32_CompareAndSwap)

/-! ### Ub = wots_Digits: function 82 -/
def Ub.l0 : Nat → List Int → Int → List Int → Int → Int → Option (List Int × Bool)
 | 0, _, _, _, _, _ => none
 | k + 1, x4, x5, x12, x13, x14 => if x14 < x13 then (if 0 ≤ x14 then (if x14 < (x12.length : Int) then ((some (([wrap64 ((rd x12 x14) / 16), wrap64 (Go.bits .and .u8 (rd x12 x14) 15)] : List Int) : List Int)).bind fun y313 => (if x4.length + y313.length < 17592186044416 then (Ub.l0 k (x4 ++ y313) (wrap64 (x5 + (wrap64 ((wrap64 (30 - (wrap64 ((rd x12 x14) / 16)))) - (wrap64 (Go.bits .and .u8 (rd x12 x14) 15)))))) x12 x13 (wrap64 (x14 + 1))) else (none))) else (none)) else (none)) else ((some (([x5 / 256, Go.bits .and .i64 (x5 / 16) 15, Go.bits .and .i64 x5 15] : List Int) : List Int)).bind fun y319 => (if x4.length + y319.length < 17592186044416 then (some ((x4 ++ y319), true)) else (none)))
def Ub.f (k : Nat) (a0 : ByteArray) : Option (List Int × Bool) := if (a0.size : Int) = 32 then (if a0.size ≤ 9223372036854775807 then ((some (bytesOf a0 : List Int)).bind fun y309 => (Ub.l0 k ([] : List Int) 0 y309 (y309.length : Int) 0)) else (none)) else (some (([] : List Int), false))
set_option maxHeartbeats 64000000 in
set_option maxRecDepth 100000 in
theorem Ub.calls (k : Nat) (a0 : ByteArray) (r1 : List Int) (r2 : Bool) (w : World) (h : Ub.f k a0 = some (r1, r2)) :
 Calls Tryz.prog 82 #[.string a0] w fun e w' => ∃ v0_ : Value, e = .returned (.tuple #[v0_, .bool r2]) ∧ Kd.R (Kd.int .i64) 3 w' w.heap.size (fun _ => True) v0_ r1 ∧ Below w.heap.size w w' := by
 have HB := Aside0.mk (Below.refl w.heap.size w)
 have H : (if (a0.size : Int) = 32 then (if a0.size ≤ 9223372036854775807 then ((some (bytesOf a0 : List Int)).bind fun y309 => (Ub.l0 k ([] : List Int) 0 y309 (y309.length : Int) 0)) else (none)) else (some (([] : List Int), false))) = some (r1, r2) := h
 clear h
 by_cases c2 : (a0.size : Int) = 32
 ·rw [if_pos c2] at H
  have c2b0 : ((a0.size : Int) == 32) = true := beq_iff_eq.mpr c2
  have c2b1 : ((a0.size : Int) != 32) = false := bne_eq_false_iff_eq.mpr c2
  clear c2
  revert H; refine ne_ fun c3 c3b0 c3b1 => oy_ fun y309 Ny309 H => ?_
  try have c3b2 : (9223372036854775807 < a0.size) = False := eq_false (Nat.not_lt.2 c3)
  clear c3
  have H' := Aside0.mk H
  clear H
  go_enter Tryz.func82, Tryz.ntmps82
  go_wp2_with (first | ((with_reducible refine gate_dst (N := 12) rfl ?_); refine conv_V_event (P := Tryz.prog) rfl (N := 12) rfl 9 68 5 _ rfl a0 rfl Ny309.out Tryz.underlying9 Tryz.underlying68 Tryz.underlying5 (ae_) ?_; intro v310 w4 hv_ hb; have HO311 := Aside0.mk (Kd.V_lower (Kd.V_mono (ok' := fun k_ => True) hv_ (fun k_ hk_ => trivial)) (below_size bl_)); replace HB := Aside0.mk (below_step bl_ hb); clear hb hv_; obtain ⟨Ao5, co5, eo5⟩ := Kd.V_slice HO311.out; subst eo5))
  go_loopg [4, 5, 14] k (fun kq v4 v5 v14 w' => ∃ (x4_1 : List Int) (x5_1 : Int) (x14_1 : Int), v5 = .int .i64 x5_1 ∧ v14 = .int .i64 x14_1 ∧ Aside0 (Ub.l0 kq x4_1 x5_1 y309 (y309.length : Int) x14_1 = some (r1, r2)) ∧ Aside0 (kq ≤ k) ∧ Aside0 (Kd.R (Kd.int .i64) 3 w' w.heap.size (fun _ => True) v4 x4_1) ∧ Aside0 (Kd.V (Kd.int .u8) 5 w' w.heap.size (fun k_ => some k_ ≠ (v4 : Value).ownBlock) (.slice Ao5 y309.length co5) y309) ∧ Aside0 (Below w.heap.size w w'))
  case atStart => exact ⟨(([] : List Int)), (0), (0), vq_, vq_, H', ⟨Nat.le_refl _⟩, ⟨by first | exact Kd.R_nil _ _ _ _ _ | exact Kd.N_nil _ _ _ _ _ | exact Kd.V_nil _ _ _ _ _ | exact Kd.Q_nil _ _ _ _ _ | exact Kd.S_nil _ _ _ _ _⟩, ⟨by (with_reducible repeat (first | apply Kd.V_alloc | apply Kd.V_drewN | apply Kd.V_drew)); exact Kd.V_mono HO311.out (fun _ hk => (by simp [Value.ownBlock]))⟩, ⟨bl_⟩⟩
  case round =>
   clear H'
   clear c2b0 c2b1 c3b0 c3b1 c3b2
   obtain ⟨x4_1, x5_1, x14_1, rfl, rfl, HA, HK1, HO_4, HO_12, HB⟩ := hrel
   cases gk with
   | zero => exact absurd HA.out (by simp [Ub.l0])
   | succ k1 =>
    have H := HA.out
    clear HA
    simp only [Ub.l0] at H
    by_cases c6 : x14_1 < (y309.length : Int)
    ·rw [if_pos c6] at H
     have c6b0 : decide (x14_1 < (y309.length : Int)) = true := decide_eq_true c6
     clear c6
     revert H; refine nd_ fun c7 c7b0 => nd_ fun c8 c8b0 => oy_ fun y313 Ny313 => nc_ fun c9 H => ?_
     have LMc9 := Aside0.mk c9
     clear c7 c8 c9
     generalize e_ : (x4_1 ++ y313 : List Int) = y316 at H
     have Ny316 := Aside0.mk e_.symm
     clear e_
     have H' := Aside0.mk H
     clear H
     have p312 : 0 ≤ (x14_1 : Int) := ae_
     have q312 : x14_1 < (y309.length : Int) := ae_
     obtain ⟨ad312, e312, hx312_0⟩ := Kd.at_int (Kd.V_reads' HO_12.out).2.2 x14_1 p312 q312
     cases e312
     replace p312 := eq_true p312
     replace q312 := eq_true q312
     go_wp2_with (first | ((with_reducible refine gate_dst (N := 25) rfl ?_); refine Kd.R_lit (Kd.int .i64) _ 3 ?hg (N := 25) ?hd (xs := ([wrap64 ((rd y309 x14_1) / 16), wrap64 (Go.bits .and .u8 (rd y309 x14_1) 15)] : List Int)) (inner := [.int .i64 (wrap64 ((rd y309 x14_1) / 16)), .int .i64 (wrap64 (Go.bits .and .u8 (rd y309 x14_1) 15))]) (ok := fun _ => True) (okp := fun _ => True) ?hr ?hp (fun _ hk => hk) trivial (Below.refl _ _) (Nat.le_refl _) (by simp) ?_; (case hd => rfl); (case hg => rfl); (case hr => exact gr_); (case hp => exact (Reps.one (show Kd.M (Kd.int .i64) _ _ _ (wrap64 ((rd y309 x14_1) / 16)) [.int .i64 (wrap64 ((rd y309 x14_1) / 16))] from rfl) (Reps.one (show Kd.M (Kd.int .i64) _ _ _ (wrap64 (Go.bits .and .u8 (rd y309 x14_1) 15)) [.int .i64 (wrap64 (Go.bits .and .u8 (rd y309 x14_1) 15))] from rfl) (Reps.none _ _)))); intro v314 w10 ho11 hb hg_ hnew_; clear hg_ hnew_; (first | rw [← Ny313.out] at ho11 | (simp only [Int.reduceToNat] at ho11; rw [← Ny313.out] at ho11)); have HO315 := Aside0.mk (Kd.R_lower (Kd.R_new' ho11 (Kd.R_lt (mv_ HO_4.out))) (below_size bl_)); replace HB := Aside0.mk (below_step bl_ hb); replace HO_12 := Aside0.mk (Kd.V_elder' (by (with_reducible repeat (first | apply Kd.V_alloc | apply Kd.V_drewN | apply Kd.V_drew)); exact HO_12.out) (Kd.R_base ho11) hb); replace HO_4 := Aside0.mk (Kd.R_elder' (mv_ HO_4.out) (Kd.R_base ho11) hb); clear hb ho11; obtain ⟨Ao13, co13, eo13⟩ := Kd.R_slice HO315.out; subst eo13) | ((with_reducible refine gate_builtin (b := .append) (xs := #[.tmp 18, .tmp 25]) rfl ?_); at_builtin; refine Kd.R_append_rows (Kd.int .i64) (w0 := w) w.heap.size rfl (.tmp 18) (.tmp 25) 101 3 (.int .i64 0) 8 rfl Tryz.underlying101 info3 rfl (by decide) (by omega) u4 x4_1 y313 _ _ _ (fun k_ => some k_ ≠ (.slice Ao13 y313.length co13 : Value).ownBlock) (fun _ => False) rfl rfl ?aO ?aR (fun _ _ h => h) (fun _ h => h.elim) ?aF ?aB ?aS ?aL ?_; (case aR => repeat (first | exact (Kd.R_reads' HO315.out).2.2 | (with_reducible refine Kd.C_alloc ?_ _) | (with_reducible refine Kd.C_drewN ?_ _) | (with_reducible refine Kd.C_drew ?_))); (case aB => exact bl_); (case aF => exact (fun k_ hk => Kd.fresh' (Kd.R_lt (mv_ HO315.out)) k_ hk)); (case aO => exact (by refine mv_ ?_; exact Kd.R_mono HO_4.out (fun _ hk => hk.2))); (case aS => exact (below_size bl_)); (case aL => have := LMc9.out; omega); intro v317 w12 ho hb hg hat; rw [← Ny316.out] at ho; have HO318 := Aside0.mk (ho); replace HB := Aside0.mk (hb); replace HO315 := Aside0.mk (Kd.R_after (ok := (fun _ => True)) (mv_ HO315.out) hg hat); replace HO_12 := Aside0.mk (Kd.V_afterv (ok := (fun k_ => some k_ ≠ (.slice Ao13 y313.length co13 : Value).ownBlock)) (by (with_reducible repeat (first | apply Kd.V_alloc | apply Kd.V_drewN | apply Kd.V_drew)); exact Kd.V_mono HO_12.out (fun _ hk => ⟨hk.2, hk.1⟩)) hg hat); clear HO_4; clear ho hb hg hat))
     go_roundg k1
     case measure => have := HK1.out; omega
     case rel => exact ⟨(y316), (wrap64 (x5_1 + (wrap64 ((wrap64 (30 - (wrap64 ((rd y309 x14_1) / 16)))) - (wrap64 (Go.bits .and .u8 (rd y309 x14_1) 15)))))), (wrap64 (x14_1 + 1)), vq_, vq_, H', ⟨by have := HK1.out; omega⟩, ⟨by refine mv_ ?_; exact Kd.R_mono HO318.out (fun _ hk => trivial)⟩, ⟨by (with_reducible repeat (first | apply Kd.V_alloc | apply Kd.V_drewN | apply Kd.V_drew)); exact Kd.V_mono HO_12.out (fun _ hk => hk.2)⟩, ⟨bl_⟩⟩
    rw [if_neg c6] at H
    have c6b0 : decide (x14_1 < (y309.length : Int)) = false := decide_eq_false c6
    clear c6
    revert H; refine oy_ fun y319 Ny319 => nc_ fun c14 H => ?_
    have LMc14 := Aside0.mk c14
    clear c14
    generalize e_ : (x4_1 ++ y319 : List Int) = y322 at H
    have Ny322 := Aside0.mk e_.symm
    clear e_
    simp only [Option.some.injEq, Prod.mk.injEq] at H
    obtain ⟨rfl, rfl⟩ := H
    go_wp2_with (first | ((with_reducible refine gate_dst (N := 46) rfl ?_); refine Kd.R_lit (Kd.int .i64) _ 3 ?hg (N := 46) ?hd (xs := ([x5_1 / 256, Go.bits .and .i64 (x5_1 / 16) 15, Go.bits .and .i64 x5_1 15] : List Int)) (inner := [.int .i64 (x5_1 / 256), .int .i64 (Go.bits .and .i64 (x5_1 / 16) 15), .int .i64 (Go.bits .and .i64 x5_1 15)]) (ok := fun _ => True) (okp := fun _ => True) ?hr ?hp (fun _ hk => hk) trivial (Below.refl _ _) (Nat.le_refl _) (by simp) ?_; (case hd => rfl); (case hg => rfl); (case hr => exact gr_); (case hp => exact (Reps.one (show Kd.M (Kd.int .i64) _ _ _ (x5_1 / 256) [.int .i64 (x5_1 / 256)] from rfl) (Reps.one (show Kd.M (Kd.int .i64) _ _ _ (Go.bits .and .i64 (x5_1 / 16) 15) [.int .i64 (Go.bits .and .i64 (x5_1 / 16) 15)] from rfl) (Reps.one (show Kd.M (Kd.int .i64) _ _ _ (Go.bits .and .i64 x5_1 15) [.int .i64 (Go.bits .and .i64 x5_1 15)] from rfl) (Reps.none _ _))))); intro v320 w15 ho16 hb hg_ hnew_; clear hg_ hnew_; (first | rw [← Ny319.out] at ho16 | (simp only [Int.reduceToNat] at ho16; rw [← Ny319.out] at ho16)); have HO321 := Aside0.mk (Kd.R_lower (Kd.R_new' ho16 (Kd.R_lt (mv_ HO_4.out))) (below_size bl_)); replace HB := Aside0.mk (below_step bl_ hb); replace HO_12 := Aside0.mk (Kd.V_elder' (by (with_reducible repeat (first | apply Kd.V_alloc | apply Kd.V_drewN | apply Kd.V_drew)); exact HO_12.out) (Kd.R_base ho16) hb); replace HO_4 := Aside0.mk (Kd.R_elder' (mv_ HO_4.out) (Kd.R_base ho16) hb); clear hb ho16; obtain ⟨Ao18, co18, eo18⟩ := Kd.R_slice HO321.out; subst eo18) | ((with_reducible refine gate_builtin (b := .append) (xs := #[.tmp 38, .tmp 46]) rfl ?_); at_builtin; refine Kd.R_append_rows (Kd.int .i64) (w0 := w) w.heap.size rfl (.tmp 38) (.tmp 46) 101 3 (.int .i64 0) 8 rfl Tryz.underlying101 info3 rfl (by decide) (by omega) u4 x4_1 y319 _ _ _ (fun k_ => some k_ ≠ (.slice Ao18 y319.length co18 : Value).ownBlock) (fun _ => False) rfl rfl ?aO ?aR (fun _ _ h => h) (fun _ h => h.elim) ?aF ?aB ?aS ?aL ?_; (case aR => repeat (first | exact (Kd.R_reads' HO321.out).2.2 | (with_reducible refine Kd.C_alloc ?_ _) | (with_reducible refine Kd.C_drewN ?_ _) | (with_reducible refine Kd.C_drew ?_))); (case aB => exact bl_); (case aF => exact (fun k_ hk => Kd.fresh' (Kd.R_lt (mv_ HO321.out)) k_ hk)); (case aO => exact (by refine mv_ ?_; exact Kd.R_mono HO_4.out (fun _ hk => hk.2))); (case aS => exact (below_size bl_)); (case aL => have := LMc14.out; omega); intro v323 w17 ho hb hg hat; rw [← Ny322.out] at ho; have HO324 := Aside0.mk (ho); replace HB := Aside0.mk (hb); replace HO321 := Aside0.mk (Kd.R_after (ok := (fun _ => True)) (mv_ HO321.out) hg hat); replace HO_12 := Aside0.mk (Kd.V_afterv (ok := (fun k_ => some k_ ≠ (.slice Ao18 y319.length co18 : Value).ownBlock)) (by (with_reducible repeat (first | apply Kd.V_alloc | apply Kd.V_drewN | apply Kd.V_drew)); exact Kd.V_mono HO_12.out (fun _ hk => ⟨hk.2, hk.1⟩)) hg hat); clear HO_4; clear ho hb hg hat))
    go_ret2
    exact ⟨_, er_, by refine mv_ ?_; exact Kd.R_mono HO324.out (fun _ hk => trivial), bl_⟩
 rw [if_neg c2] at H
 have c2b0 : ((a0.size : Int) == 32) = false := beq_eq_false_iff_ne.mpr c2
 have c2b1 : ((a0.size : Int) != 32) = true := bne_iff_ne.mpr c2
 simp only [Option.some.injEq, Prod.mk.injEq] at H
 obtain ⟨rfl, rfl⟩ := H
 go_enter Tryz.func82, Tryz.ntmps82
 go_wp2
 go_ret2
 exact ⟨_, er_, by first | exact Kd.R_nil _ _ _ _ _ | exact Kd.N_nil _ _ _ _ _ | exact Kd.V_nil _ _ _ _ _ | exact Kd.Q_nil _ _ _ _ _ | exact Kd.S_nil _ _ _ _ _, bl_⟩

/-! ### Uy = wots_Sign: function 52 (walked by hand) -/
def Uy.f (k : Nat) (a0 : ByteArray) (a1 : Int) (a2 : ByteArray) : Option (List ByteArray × Bool) :=
  (Uo.f k a1).bind fun b => (Ub.f k a2).bind fun d => if b.2 = true then (if d.2 = true then ((Ua.f k a0 a1 d.1).bind fun l => some (l, true)) else (some (([] : List ByteArray), false))) else (some (([] : List ByteArray), false))
theorem Uy.at_new (w : World) (v : Value) (t : Nat) : (w.alloc (.cells #[v] t)).cell? ⟨w.heap.size, 0, none⟩ = some v := by
  have h := heap_alloc_new w (.cells #[v] t)
  simp only [World.cell?, h]
  rfl
set_option maxHeartbeats 8000000 in
theorem Uy.fv (w : World) (g : Nat) (A1 : Option Addr) (c1 : Nat) (l : List Int) (hg : g < w.heap.size) (hcell : w.cell? ⟨g, 0, none⟩ = some (.slice A1 l.length c1)) (hr : Kd.C (Kd.int .i64) w A1 l.length l) : FV Tryz.prog w (.func (.func 84) #[] #[.pointer (some ⟨g, 0, none⟩)]) l := by
  refine ⟨84, Tryz.f84, #[.pointer (some ⟨g, 0, none⟩)], rfl, Tryz.func84, by kernel_rfl, rfl, fun i W h0 h1 hb => ?_⟩
  show Calls Tryz.prog 84 #[.int .i64 i, .pointer (some ⟨g, 0, none⟩)] W _
  have hcell1 : W.cell? ⟨g, 0, none⟩ = some (.slice A1 l.length c1) := (hb.cell (p := ⟨g, 0, none⟩) hg).trans hcell
  obtain ⟨ad, rfl, hx⟩ := Kd.at_int (Kd.C_below hr hb) i h0 h1
  have hn := (Kd.C_below hr hb).2.1
  have p0 : (0 ≤ i) = True := eq_true h0
  have q0 : (i < (l.length : Int)) = True := eq_true h1
  clear hcell hr hb hg h0 h1
  go_enter Tryz.func84, Tryz.ntmps84
  go_wp2
  go_ret
  exact ⟨rfl, Below.refl _ _⟩
set_option maxHeartbeats 8000000 in
set_option maxRecDepth 100000 in
theorem Uy.calls (k : Nat) (a0 : ByteArray) (a1 : Int) (a2 : ByteArray) (r1 : List ByteArray) (r2 : Bool) (w : World) (hrG : Kd.C (Kd.int .u32) w (some ⟨0, 0, none⟩) keysL.length keysL) (h : Uy.f k a0 a1 a2 = some (r1, r2)) :
    Calls Tryz.prog 52 #[.string a0, .int .i64 a1, .string a2] w fun e w' => ∃ v0_ : Value, e = .returned (.tuple #[v0_, .bool r2]) ∧ Kd.R Kd.string 9 w' w.heap.size (fun _ => True) v0_ r1 ∧ Below w.heap.size w w' := by
  have HRG := Aside0.mk hrG
  clear hrG
  unfold Uy.f at h
  replace h := Option.bind_eq_some_iff.mp h
  obtain ⟨⟨n, ok⟩, hL, h⟩ := h
  replace h := Option.bind_eq_some_iff.mp h
  obtain ⟨⟨l, ok2⟩, hD, h⟩ := h
  have HL := Aside0.mk hL
  have HD := Aside0.mk hD
  clear hL hD
  have hmf : ∀ (fn : Fn) (first cap : Array Value) (w : World), (Instr.makeFunc fn first cap).run Tryz.prog w = .ok (.func fn first cap) w := fun _ _ _ _ => rfl
  cases ok with
  | false =>
    replace h : some (([] : List ByteArray), false) = some (r1, r2) := h
    simp only [Option.some.injEq, Prod.mk.injEq] at h
    obtain ⟨rfl, rfl⟩ := h
    go_enter Tryz.func52, Tryz.ntmps52
    go_wp2_with (first | (go_at_call 81; (with_reducible refine (Uo.calls k _ n false _ HL.out).mono ?_); rintro e w1 ⟨rfl, hb⟩; have HB := Aside0.mk hb; clear hb) | (go_at_call 82; (with_reducible refine (Ub.calls k _ l ok2 _ HD.out).mono ?_); rintro e w2 ⟨v, rfl, ho, hb⟩; have n1_ := Aside0.mk (below_step HB.out hb); clear HB; have HB := n1_; clear n1_; obtain ⟨A1, c1, rfl, hc1, hC1⟩ := Kd.R_reads ho; have HR1 := Aside0.mk hC1; clear hc1 hC1 ho hb))
    go_ret2
    exact ⟨_, rfl, Kd.R_nil _ _ _ _ _, below_alloc HB.out _⟩
  | true =>
    cases ok2 with
    | false =>
      replace h : some (([] : List ByteArray), false) = some (r1, r2) := h
      simp only [Option.some.injEq, Prod.mk.injEq] at h
      obtain ⟨rfl, rfl⟩ := h
      go_enter Tryz.func52, Tryz.ntmps52
      go_wp2_with (first | (go_at_call 81; (with_reducible refine (Uo.calls k _ n true _ HL.out).mono ?_); rintro e w1 ⟨rfl, hb⟩; have HB := Aside0.mk hb; clear hb) | (go_at_call 82; (with_reducible refine (Ub.calls k _ l false _ HD.out).mono ?_); rintro e w2 ⟨v, rfl, ho, hb⟩; have n1_ := Aside0.mk (below_step HB.out hb); clear HB; have HB := n1_; clear n1_; obtain ⟨A1, c1, rfl, hc1, hC1⟩ := Kd.R_reads ho; have HR1 := Aside0.mk hC1; clear hc1 hC1 ho hb))
      go_ret2
      exact ⟨_, rfl, Kd.R_nil _ _ _ _ _, below_alloc HB.out _⟩
    | true =>
      replace h : ((Ua.f k a0 a1 l).bind fun l => some (l, true)) = some (r1, r2) := h
      replace h := Option.bind_eq_some_iff.mp h
      obtain ⟨l2, hV, h⟩ := h
      simp only [Option.some.injEq, Prod.mk.injEq] at h
      obtain ⟨rfl, rfl⟩ := h
      have HV := Aside0.mk hV
      clear hV
      go_enter Tryz.func52, Tryz.ntmps52
      go_wp2_with (first | (go_at_call 81; (with_reducible refine (Uo.calls k _ n true _ HL.out).mono ?_); rintro e w1 ⟨rfl, hb⟩; have HB := Aside0.mk hb; clear hb) | (go_at_call 82; (with_reducible refine (Ub.calls k _ l true _ HD.out).mono ?_); rintro e w2 ⟨v, rfl, ho, hb⟩; have n1_ := Aside0.mk (below_step HB.out hb); clear HB; have HB := n1_; clear n1_; obtain ⟨A1, c1, rfl, hc1, hC1⟩ := Kd.R_reads ho; have HR1 := Aside0.mk hC1; clear hc1 hC1 ho hb) | (go_at_call 83; (refine (Ua.calls k a0 a1 _ l l2 _ (Uy.fv (w2.alloc (.cells #[.slice A1 l.length c1] 101)) w2.heap.size A1 c1 l ?s1 ?s2 ?s3) (Kd.C_below HRG.out ?s4) HV.out).mono ?_); (case s1 => simp); (case s2 => exact Uy.at_new w2 _ _); (case s3 => exact Kd.C_below HR1.out (below_alloc (Below.refl _ _) _)); (case s4 => exact below_alloc HB.out _); rintro e w4 ⟨v4, rfl, ho, hb⟩; have n1_ := Aside0.mk (below_step (below_alloc HB.out _) hb); have HO := Aside0.mk (Kd.R_lower ho (below_size (below_alloc HB.out _))); clear HB; have HB := n1_; clear n1_ ho hb))
      go_ret2
      exact ⟨_, rfl, HO.out, HB.out⟩

/-! ### Jz = merkle_Path: function 53 -/
mutual
def Jz.j0 : Nat → List ByteArray → Int → Bool → Option (List ByteArray × Bool)
 | 0, _, _, _ => none
 | k + 1, x0, x1, x22 => if x22 = true then (some (([] : List ByteArray), false)) else (Jz.l0 k x0 x1 ([] : List ByteArray) 1)
def Jz.l0 : Nat → List ByteArray → Int → List ByteArray → Int → Option (List ByteArray × Bool)
 | 0, _, _, _, _ => none
 | k + 1, x0, x1, x6, x7 => if x7 < (x0.length : Int) then (if x7 = 0 then (none) else (if 0 ≤ (wrap64 ((Go.bits .xor .i64 (wrap64 (Int.tdiv x1 x7)) 1) * x7)) then (if (wrap64 ((Go.bits .xor .i64 (wrap64 (Int.tdiv x1 x7)) 1) * x7)) ≤ (wrap64 ((wrap64 ((Go.bits .xor .i64 (wrap64 (Int.tdiv x1 x7)) 1) * x7)) + x7)) then (if (wrap64 ((wrap64 ((Go.bits .xor .i64 (wrap64 (Int.tdiv x1 x7)) 1) * x7)) + x7)) ≤ (x0.length : Int) then ((J4.f k ((x0.take ((wrap64 ((wrap64 ((Go.bits .xor .i64 (wrap64 (Int.tdiv x1 x7)) 1) * x7)) + x7)) : Int).toNat).drop ((wrap64 ((Go.bits .xor .i64 (wrap64 (Int.tdiv x1 x7)) 1) * x7)) : Int).toNat)).bind fun t327 => (if x6.length < 8796093022208 then (Jz.l0 k x0 x1 (x6 ++ [t327]) (wrap64 (x7 * 2))) else (none))) else (none)) else (none)) else (none))) else (some (x6, true))
end
def Jz.f (k : Nat) (l0 : List ByteArray) (a1 : Int) : Option (List ByteArray × Bool) := (Ue.f (l0.length : Int)).bind fun t325 => (if t325 = true then (if a1 < 0 then (Jz.j0 k l0 a1 true) else (Jz.j0 k l0 a1 (decide (a1 ≥ (l0.length : Int))))) else (Jz.j0 k l0 a1 true))
set_option maxHeartbeats 64000000 in
set_option maxRecDepth 100000 in
theorem Jz.calls (k : Nat) (A0 : Option Addr) (c0 : Nat) (l0 : List ByteArray) (a1 : Int) (r1 : List ByteArray) (r2 : Bool) (w : World) (hr0 : Kd.C Kd.string w A0 l0.length l0) (hc0 : l0.length ≤ c0) (hrG : Kd.C (Kd.int .u32) w (some ⟨0, 0, none⟩) keysL.length keysL) (h : Jz.f k l0 a1 = some (r1, r2)) :
 Calls Tryz.prog 53 #[.slice A0 l0.length c0, .int .i64 a1] w fun e w' => ∃ v0_ : Value, e = .returned (.tuple #[v0_, .bool r2]) ∧ Kd.R Kd.string 9 w' w.heap.size (fun _ => True) v0_ r1 ∧ Below w.heap.size w w' := by
 have HR0 := Aside0.mk hr0
 have HC0 := Aside0.mk hc0
 clear hr0 hc0
 have HRG := Aside0.mk hrG
 clear hrG
 have HB := Aside0.mk (Below.refl w.heap.size w)
 have H : ((Ue.f (l0.length : Int)).bind fun t325 => (if t325 = true then (if a1 < 0 then (Jz.j0 k l0 a1 true) else (Jz.j0 k l0 a1 (decide (a1 ≥ (l0.length : Int))))) else (Jz.j0 k l0 a1 true))) = some (r1, r2) := h
 clear h
 have HC3 := Aside0.mk H
 clear H
 go_enter Tryz.func53, Tryz.ntmps53
 go_upto_region 1 with (fail)
 go_cut [22] (fun v22 wc => ∃ (kq : Nat) (x22_2 : Bool), v22 = .bool x22_2 ∧ Aside0 (Jz.j0 kq l0 a1 x22_2 = some (r1, r2)) ∧ Aside0 (kq ≤ k) ∧ Aside0 (Below w.heap.size w wc))
 case first =>
  have H := HC3.out
  clear HC3
  revert H; refine oa_ fun t325 A4 H => ?_
  by_cases c5 : t325 = true
  ·subst c5
   have H1 : (if a1 < 0 then (Jz.j0 k l0 a1 true) else (Jz.j0 k l0 a1 (decide (a1 ≥ (l0.length : Int))))) = some (r1, r2) := by rw [if_pos rfl] at H; exact H
   clear H
   have H := H1
   clear H1
   by_cases c6 : a1 < 0
   ·rw [if_pos c6] at H
    have c6b0 : decide (a1 < 0) = true := decide_eq_true c6
    clear c6
    (first | rw [c6b0] | (simp only [i64_w, i32_w]; rw [c6b0]) | skip)
    have H' := Aside0.mk H
    clear H
    go_wp2_with (first | ((with_reducible refine gate_callee (f := 74) rfl ?_); refine gL_ 11 Tryz.func74 #[.int .i64 (l0.length : Int)] ?_; (with_reducible refine (Ue.calls (l0.length : Int) true _ A4.out).mono ?_); rintro e w' ⟨rfl, ⟨nd, rfl⟩⟩; refine ⟨_, rfl, ?_⟩))
    go_meet
    case rel => exact ⟨_, (true), vq_, H', ⟨by first | omega | exact Nat.le_refl _⟩, ⟨bl_⟩⟩
   rw [if_neg c6] at H
   have c6b0 : decide (a1 < 0) = false := decide_eq_false c6
   clear c6
   (first | rw [c6b0] | (simp only [i64_w, i32_w]; rw [c6b0]) | skip)
   have H' := Aside0.mk H
   clear H
   go_wp2_with (first | ((with_reducible refine gate_callee (f := 74) rfl ?_); refine gL_ 11 Tryz.func74 #[.int .i64 (l0.length : Int)] ?_; (with_reducible refine (Ue.calls (l0.length : Int) true _ A4.out).mono ?_); rintro e w' ⟨rfl, ⟨nd, rfl⟩⟩; refine ⟨_, rfl, ?_⟩))
   go_meet
   case rel => exact ⟨_, (decide (a1 ≥ (l0.length : Int))), vq_, H', ⟨by first | omega | exact Nat.le_refl _⟩, ⟨bl_⟩⟩
  replace c5 := Bool.eq_false_iff.mpr c5
  subst c5
  have H1 : (Jz.j0 k l0 a1 true) = some (r1, r2) := by rw [if_neg (show ¬ (false = true) by decide)] at H; exact H
  clear H
  have H := H1
  clear H1
  have H' := Aside0.mk H
  clear H
  go_wp2_with (first | ((with_reducible refine gate_callee (f := 74) rfl ?_); refine gL_ 11 Tryz.func74 #[.int .i64 (l0.length : Int)] ?_; (with_reducible refine (Ue.calls (l0.length : Int) false _ A4.out).mono ?_); rintro e w' ⟨rfl, ⟨nd, rfl⟩⟩; refine ⟨_, rfl, ?_⟩))
  go_meet
  case rel => exact ⟨_, (true), vq_, H', ⟨by first | omega | exact Nat.le_refl _⟩, ⟨bl_⟩⟩
 case rest =>
  clear HC3
  obtain ⟨kq, x22_2, rfl, HA, HJ2, HB⟩ := hcut
  cases kq with
  | zero => exact absurd HA.out (by simp [Jz.j0])
  | succ kj2 =>
   have H := HA.out
   clear HA
   simp only [Jz.j0] at H
   by_cases c7 : x22_2 = true
   ·subst c7
    have H1 : (some (([] : List ByteArray), false)) = some (r1, r2) := by rw [if_pos rfl] at H; exact H
    clear H
    have H := H1
    clear H1
    simp only [Option.some.injEq, Prod.mk.injEq] at H
    obtain ⟨rfl, rfl⟩ := H
    go_wp2
    go_ret2
    exact ⟨_, er_, by first | exact Kd.R_nil _ _ _ _ _ | exact Kd.N_nil _ _ _ _ _ | exact Kd.V_nil _ _ _ _ _ | exact Kd.Q_nil _ _ _ _ _ | exact Kd.S_nil _ _ _ _ _, bl_⟩
   replace c7 := Bool.eq_false_iff.mpr c7
   subst c7
   have H1 : (Jz.l0 kj2 l0 a1 ([] : List ByteArray) 1) = some (r1, r2) := by rw [if_neg (show ¬ (false = true) by decide)] at H; exact H
   clear H
   have H := H1
   clear H1
   have H' := Aside0.mk H
   clear H
   go_wp2
   go_loopg [6, 7] kj2 (fun kq v6 v7 w' => ∃ (x6_2 : List ByteArray) (x7_2 : Int), v7 = .int .i64 x7_2 ∧ Aside0 (Jz.l0 kq l0 a1 x6_2 x7_2 = some (r1, r2)) ∧ Aside0 (kq ≤ kj2) ∧ Aside0 (Kd.R Kd.string 9 w' w.heap.size (fun _ => True) v6 x6_2) ∧ Aside0 (Below w.heap.size w w'))
   case atStart => exact ⟨(([] : List ByteArray)), (1), vq_, H', ⟨Nat.le_refl _⟩, ⟨by first | exact Kd.R_nil _ _ _ _ _ | exact Kd.N_nil _ _ _ _ _ | exact Kd.V_nil _ _ _ _ _ | exact Kd.Q_nil _ _ _ _ _ | exact Kd.S_nil _ _ _ _ _⟩, ⟨bl_⟩⟩
   case round =>
    clear H'
    obtain ⟨x6_2, x7_2, rfl, HA, HK2, HO_6, HB⟩ := hrel
    cases gk with
    | zero => exact absurd HA.out (by simp [Jz.l0])
    | succ k2 =>
     have H := HA.out
     clear HA
     simp only [Jz.l0] at H
     by_cases c8 : x7_2 < (l0.length : Int)
     ·rw [if_pos c8] at H
      have c8b0 : decide (x7_2 < (l0.length : Int)) = true := decide_eq_true c8
      clear c8
      by_cases c9 : x7_2 = 0
      ·rw [if_pos c9] at H
       exact absurd H (by simp)
      rw [if_neg c9] at H
      have c9b0 : (x7_2 == 0) = false := beq_eq_false_iff_ne.mpr c9
      have c9b1 : (x7_2 != 0) = true := bne_iff_ne.mpr c9
      generalize hji10 : (wrap64 ((Go.bits .xor .i64 (wrap64 (Int.tdiv a1 x7_2)) 1) * x7_2)) = ji10 at H
      have hji10w := (i64_w _).trans hji10
      revert H; refine ne_ fun c11 c11b0 c11b1 => ne_ fun c12 c12b0 c12b1 => ne_ fun c13 c13b0 c13b1 => oa_ fun t327 A14 => nc_ fun c15 H => ?_
      have LMc15 := Aside0.mk c15
      clear c11 c15
      generalize e_ : (x6_2 ++ [t327] : List ByteArray) = y328 at H
      have Ny328 := Aside0.mk e_.symm
      clear e_
      have H' := Aside0.mk H
      clear H
      obtain ⟨i016, hi016, _, hsz16, _⟩ := info_parts info9
      obtain ⟨A16, hcut16, hA16, hC16⟩ := print_mid_of (P := Tryz.prog) Value.string ⟨#[]⟩ 22 9 .i64 .i64 Tryz.underlying22 hi016 hsz16 A0 c0 l0 (ji10) (wrap64 ((ji10) + x7_2)) (ae_) (by first | omega | exact ae_) (ae_) HC0.out
      have HR326 := Aside0.mk (Kd.C_of_reads (h1 := fun _ => rfl) (hA16 _ (Kd.reads_of_C HR0.out)))
      have HC326 := Aside0.mk hC16
      clear hA16 hC16 hi016 hsz16
      go_wp2_with (first | ((with_reducible refine gate_callee (f := 75) rfl ?_); refine goesL_ (some 44) rfl rfl Tryz.func75 (by kernel_rfl) rfl #[.slice A16 ((l0.take ((wrap64 ((ji10) + x7_2)) : Int).toNat).drop ((ji10) : Int).toNat).length (c0 - (ji10).toNat)] rfl (by (simp only [List.map_toArray, List.map_cons, List.map_nil]); first | done | (rw [show ((l0.take ((wrap64 ((ji10) + x7_2)) : Int).toNat).drop ((ji10) : Int).toNat).length = ((wrap64 ((ji10) + x7_2)).toNat - (ji10).toNat) from (by rw [List.length_drop, List.length_take]; have h_ : ((wrap64 ((ji10) + x7_2)) : Int) ≤ (l0.length : Int) := ae_; omega)] <;> rfl) | (simp only [hji10]; rfl) | rfl | (simp only [List.length_drop, List.length_take]; rfl)) ?_; (with_reducible refine (J4.calls k2 _ _ ((l0.take ((wrap64 ((ji10) + x7_2)) : Int).toNat).drop ((ji10) : Int).toNat) t327 _ ?side1 ?side2 ?side3 A14.out).mono ?_); (case side1 => repeat (first | exact (Kd.C_below HR326.out HB.out) | (with_reducible refine Kd.C_alloc ?_ _) | (with_reducible refine Kd.C_drewN ?_ _) | (with_reducible refine Kd.C_drew ?_))); (case side2 => exact HC326.out); (case side3 => repeat (first | exact (Kd.C_below HRG.out HB.out) | (with_reducible refine Kd.C_alloc ?_ _) | (with_reducible refine Kd.C_drewN ?_ _) | (with_reducible refine Kd.C_drew ?_))); rintro e w17 ⟨rfl, hb⟩; refine ⟨_, rfl, ?_⟩; replace HB := Aside0.mk (below_step bl_ hb); replace HO_6 := Aside0.mk (Kd.R_below (mv_ HO_6.out) hb); clear hb) | ((with_reducible refine gate_builtin (b := .append) (xs := #[.tmp 33, .tmp 45]) rfl ?_); ((refine gate_guard (by rfl) ?_; dsimp only)); at_builtin; refine Kd.R_append Kd.string (w0 := w) w.heap.size rfl (.tmp 33) (.tmp 45) 22 9 (.string ⟨#[]⟩) 16 rfl Tryz.underlying22 info9 rfl (by decide) (by omega) u6 x6_2 t327 [.string t327] (fun _ => True) (fun _ => False) rfl rfl ?aP (fun _ hk => hk.elim) ?aF ?aO ?aB ?aS ?aL ?_; (case aP => exact rfl); (case aB => exact bl_); (case aF => exact (fun _ _ => trivial)); (case aO => exact (mv_ HO_6.out)); (case aS => exact (below_size bl_)); (case aL => have := LMc15.out; omega); intro v329 w18 ho hb hg hat; rw [← Ny328.out] at ho; have HO330 := Aside0.mk (ho); replace HB := Aside0.mk (hb); clear HO_6; clear ho hb hg hat))
      go_roundg k2
      case measure => have := HJ2.out; have := HK2.out; omega
      case rel => exact ⟨(y328), (wrap64 (x7_2 * 2)), vq_, H', ⟨by have := HJ2.out; have := HK2.out; omega⟩, ⟨mv_ HO330.out⟩, ⟨bl_⟩⟩
     rw [if_neg c8] at H
     have c8b0 : decide (x7_2 < (l0.length : Int)) = false := decide_eq_false c8
     clear c8
     simp only [Option.some.injEq, Prod.mk.injEq] at H
     obtain ⟨rfl, rfl⟩ := H
     go_wp2
     go_ret2
     exact ⟨_, er_, mv_ HO_6.out, bl_⟩

-- NOT PRINTED: function 54 (strings_Join)

-- NOT PRINTED: function 25 (key_Key_Sign)

-- NOT PRINTED: function 8 (event_Sign)

/-! ### Je = palaverref06_Right: function 9 -/
mutual
def Je.j0 : Nat → Bool → Int → ByteArray → List ByteArray → ByteArray → ByteArray → Option (Bool)
 | 0, _, _, _, _, _, _ => none
 | k + 1, x35, x333000, x333001, x333002, x333003, x333004 => if x35 = true then (some false) else (if ((x333000 == 1) != ((x333002.length : Int) == 0)) = true then (Je.j1 k true x333000 x333001 x333002 x333003 x333004) else (if x333000 = 4 then (Je.j1 k ((x333003.size : Int) != 32) x333000 x333001 x333002 x333003 x333004) else (if x333000 = 5 then (Je.j1 k ((x333003.size : Int) != 32) x333000 x333001 x333002 x333003 x333004) else (Je.j1 k false x333000 x333001 x333002 x333003 x333004))))
def Je.j1 : Nat → Bool → Int → ByteArray → List ByteArray → ByteArray → ByteArray → Option (Bool)
 | 0, _, _, _, _, _, _ => none
 | k + 1, x59, x333000, x333001, x333002, x333003, x333004 => if x59 = true then (some false) else (Je.l0 k 0 x333000 x333001 x333002 x333003 x333004)
def Je.l0 : Nat → Int → Int → ByteArray → List ByteArray → ByteArray → ByteArray → Option (Bool)
 | 0, _, _, _, _, _, _ => none
 | k + 1, x3, x333000, x333001, x333002, x333003, x333004 => if x3 < (x333002.length : Int) then (if 0 ≤ x3 then (if ((rdOf ByteArray.empty x333002 x3).size : Int) = 32 then (if x3 > 0 then (if 0 ≤ (wrap64 (x3 - 1)) then (if (wrap64 (x3 - 1)) < (x333002.length : Int) then (if ((Op.bytesLess ((rdOf ByteArray.empty x333002 (wrap64 (x3 - 1))).toList) ((rdOf ByteArray.empty x333002 x3).toList)) = true) then (Je.l0 k (wrap64 (x3 + 1)) x333000 x333001 x333002 x333003 x333004) else (some false)) else (none)) else (none)) else (Je.l0 k (wrap64 (x3 + 1)) x333000 x333001 x333002 x333003 x333004)) else (some false)) else (none)) else (some true)
end
def Je.f (k : Nat) (a0_0 : Int) (a0_1 : ByteArray) (l0_2 : List ByteArray) (a0_3 : ByteArray) (a0_4 : ByteArray) : Option (Bool) := if a0_0 < 1 then (Je.j0 k true a0_0 a0_1 l0_2 a0_3 a0_4) else (if a0_0 > 5 then (Je.j0 k true a0_0 a0_1 l0_2 a0_3 a0_4) else (if (a0_1.size : Int) = 32 then (if (l0_2.length : Int) > 8 then (Je.j0 k true a0_0 a0_1 l0_2 a0_3 a0_4) else (if (a0_3.size : Int) > 200 then (Je.j0 k true a0_0 a0_1 l0_2 a0_3 a0_4) else (Je.j0 k (decide ((a0_4.size : Int) > 65535)) a0_0 a0_1 l0_2 a0_3 a0_4))) else (Je.j0 k true a0_0 a0_1 l0_2 a0_3 a0_4)))
set_option maxHeartbeats 64000000 in
set_option maxRecDepth 100000 in
theorem Je.calls (k : Nat) (a0_0 : Int) (a0_1 : ByteArray) (A0_2 : Option Addr) (c0_2 : Nat) (l0_2 : List ByteArray) (a0_3 : ByteArray) (a0_4 : ByteArray) (r : Bool) (w : World) (hr0_2 : Kd.C Kd.string w A0_2 l0_2.length l0_2) (hc0_2 : l0_2.length ≤ c0_2) (h : Je.f k a0_0 a0_1 l0_2 a0_3 a0_4 = some r) :
 Calls Tryz.prog 9 #[.agg #[.int .i64 a0_0, .string a0_1, .slice A0_2 l0_2.length c0_2, .string a0_3, .string a0_4]] w fun e w' => e = .returned (.bool r) ∧ Below w.heap.size w w' := by
 have hu24 := Tryz.underlying24
 have HR0_2 := Aside0.mk hr0_2
 have HC0_2 := Aside0.mk hc0_2
 clear hr0_2 hc0_2
 have HB := Aside0.mk (Below.refl w.heap.size w)
 have H : (if a0_0 < 1 then (Je.j0 k true a0_0 a0_1 l0_2 a0_3 a0_4) else (if a0_0 > 5 then (Je.j0 k true a0_0 a0_1 l0_2 a0_3 a0_4) else (if (a0_1.size : Int) = 32 then (if (l0_2.length : Int) > 8 then (Je.j0 k true a0_0 a0_1 l0_2 a0_3 a0_4) else (if (a0_3.size : Int) > 200 then (Je.j0 k true a0_0 a0_1 l0_2 a0_3 a0_4) else (Je.j0 k (decide ((a0_4.size : Int) > 65535)) a0_0 a0_1 l0_2 a0_3 a0_4))) else (Je.j0 k true a0_0 a0_1 l0_2 a0_3 a0_4)))) = some r := h
 clear h
 have HC2 := Aside0.mk H
 clear H
 go_enter Tryz.func9, Tryz.ntmps9
 go_upto_region 1 with (first | ((with_reducible refine gate_dst (N := 1) rfl ?_); ((refine gate_guard (by rfl) ?_; dsimp only)); refine box_event ?hg (N := 1) ?hd (cs := #[.int .i64 a0_0, .string a0_1, .slice A0_2 l0_2.length c0_2, .string a0_3, .string a0_4]) (t := 24) ?hr ?_; (case hd => rfl); (case hg => rfl); (case hr => exact gr_); intro gb332 hg w3 hbox hb; have GE332 := Aside0.mk ((by rw [hg]; exact (below_size bl_) : w.heap.size ≤ gb332)); have GW332 := Aside0.mk ((by rw [hg]; exact (below_size bl_) : w.heap.size ≤ gb332)); have BK332 := Aside0.mk (hbox); replace HB := Aside0.mk (below_step bl_ hb); clear hb hbox hg))
 repeat (go_quiet (first | ((with_reducible refine gate_dst (N := 1) rfl ?_); (try (refine gate_guard (by rfl) ?_; dsimp only)); refine box_event ?hg (N := 1) ?hd (cs := #[.int .i64 a0_0, .string a0_1, .slice A0_2 l0_2.length c0_2, .string a0_3, .string a0_4]) (t := 24) ?hr ?_; (case hd => rfl); (case hg => rfl); (case hr => exact gr_); intro gb332 hg w3 hbox hb; have GE332 := Aside0.mk ((by rw [hg]; exact (below_size bl_) : w.heap.size ≤ gb332)); have GW332 := Aside0.mk ((by rw [hg]; exact (below_size bl_) : w.heap.size ≤ gb332)); have BK332 := Aside0.mk (hbox); replace HB := Aside0.mk (below_step bl_ hb); clear hb hbox hg)); go_upto_region 1 with (first | ((with_reducible refine gate_dst (N := 1) rfl ?_); (try (refine gate_guard (by rfl) ?_; dsimp only)); refine box_event ?hg (N := 1) ?hd (cs := #[.int .i64 a0_0, .string a0_1, .slice A0_2 l0_2.length c0_2, .string a0_3, .string a0_4]) (t := 24) ?hr ?_; (case hd => rfl); (case hg => rfl); (case hr => exact gr_); intro gb332 hg w3 hbox hb; have GE332 := Aside0.mk ((by rw [hg]; exact (below_size bl_) : w.heap.size ≤ gb332)); have GW332 := Aside0.mk ((by rw [hg]; exact (below_size bl_) : w.heap.size ≤ gb332)); have BK332 := Aside0.mk (hbox); replace HB := Aside0.mk (below_step bl_ hb); clear hb hbox hg)))
 go_cut [35] (fun v35 wc => ∃ (kq : Nat) (x35_1 : Bool), v35 = .bool x35_1 ∧ Aside0 (Je.j0 kq x35_1 a0_0 a0_1 l0_2 a0_3 a0_4 = some r) ∧ Aside0 (kq ≤ k) ∧ Aside0 (wc.heap[gb332]? = some (.cells #[.int .i64 a0_0, .string a0_1, (.slice A0_2 l0_2.length c0_2), .string a0_3, .string a0_4] 24 (0, 0))) ∧ Aside0 (Below w.heap.size w wc))
 case first =>
  have H := HC2.out
  clear HC2
  by_cases c4 : a0_0 < 1
  ·rw [if_pos c4] at H
   have c4b0 : decide (a0_0 < 1) = true := decide_eq_true c4
   clear c4
   (first | rw [c4b0] | (simp only [i64_w, i32_w]; rw [c4b0]) | skip)
   have H' := Aside0.mk H
   clear H
   obtain ⟨hcz5_0, hcz5_1, hcz5_2, hcz5_3, hcz5_4⟩ := c5_ BK332.out
   obtain ⟨hfz5_0, hfz5_1, hfz5_2, hfz5_3, hfz5_4⟩ := f5_ BK332.out
   go_wp2
   repeat (go_quiet (fail); try go_wp2)
   go_meet
   case rel => exact ⟨_, (true), vq_, H', ⟨by first | omega | exact Nat.le_refl _⟩, ⟨mb_ BK332.out⟩, ⟨bs_ GE332.out⟩⟩
  rw [if_neg c4] at H
  have c4b0 : decide (a0_0 < 1) = false := decide_eq_false c4
  clear c4
  (first | rw [c4b0] | (simp only [i64_w, i32_w]; rw [c4b0]) | skip)
  by_cases c6 : a0_0 > 5
  ·rw [if_pos c6] at H
   have c6b0 : decide (5 < a0_0) = true := decide_eq_true c6
   clear c6
   have H' := Aside0.mk H
   clear H
   obtain ⟨hcz7_0, hcz7_1, hcz7_2, hcz7_3, hcz7_4⟩ := c5_ BK332.out
   obtain ⟨hfz7_0, hfz7_1, hfz7_2, hfz7_3, hfz7_4⟩ := f5_ BK332.out
   go_wp2
   repeat (go_quiet (fail); try go_wp2)
   go_meet
   case rel => exact ⟨_, (true), vq_, H', ⟨by first | omega | exact Nat.le_refl _⟩, ⟨mb_ BK332.out⟩, ⟨bs_ GE332.out⟩⟩
  rw [if_neg c6] at H
  have c6b0 : decide (5 < a0_0) = false := decide_eq_false c6
  clear c6
  by_cases c8 : (a0_1.size : Int) = 32
  ·rw [if_pos c8] at H
   have c8b0 : ((a0_1.size : Int) == 32) = true := beq_iff_eq.mpr c8
   have c8b1 : ((a0_1.size : Int) != 32) = false := bne_eq_false_iff_eq.mpr c8
   clear c8
   by_cases c9 : (l0_2.length : Int) > 8
   ·rw [if_pos c9] at H
    have c9b0 : decide (8 < (l0_2.length : Int)) = true := decide_eq_true c9
    have c9b1 : decide (8 < l0_2.length) = true := decide_eq_true (by omega)
    clear c9
    have H' := Aside0.mk H
    clear H
    obtain ⟨hcz10_0, hcz10_1, hcz10_2, hcz10_3, hcz10_4⟩ := c5_ BK332.out
    obtain ⟨hfz10_0, hfz10_1, hfz10_2, hfz10_3, hfz10_4⟩ := f5_ BK332.out
    go_wp2
    repeat (go_quiet (fail); try go_wp2)
    go_meet
    case rel => exact ⟨_, (true), vq_, H', ⟨by first | omega | exact Nat.le_refl _⟩, ⟨mb_ BK332.out⟩, ⟨bs_ GE332.out⟩⟩
   rw [if_neg c9] at H
   have c9b0 : decide (8 < (l0_2.length : Int)) = false := decide_eq_false c9
   have c9b1 : decide (8 < l0_2.length) = false := decide_eq_false (by omega)
   clear c9
   by_cases c11 : (a0_3.size : Int) > 200
   ·rw [if_pos c11] at H
    have c11b0 : decide (200 < (a0_3.size : Int)) = true := decide_eq_true c11
    have c11b1 : decide (200 < a0_3.size) = true := decide_eq_true (by omega)
    clear c11
    have H' := Aside0.mk H
    clear H
    obtain ⟨hcz12_0, hcz12_1, hcz12_2, hcz12_3, hcz12_4⟩ := c5_ BK332.out
    obtain ⟨hfz12_0, hfz12_1, hfz12_2, hfz12_3, hfz12_4⟩ := f5_ BK332.out
    go_wp2
    repeat (go_quiet (fail); try go_wp2)
    go_meet
    case rel => exact ⟨_, (true), vq_, H', ⟨by first | omega | exact Nat.le_refl _⟩, ⟨mb_ BK332.out⟩, ⟨bs_ GE332.out⟩⟩
   rw [if_neg c11] at H
   have c11b0 : decide (200 < (a0_3.size : Int)) = false := decide_eq_false c11
   have c11b1 : decide (200 < a0_3.size) = false := decide_eq_false (by omega)
   clear c11
   have H' := Aside0.mk H
   clear H
   obtain ⟨hcz13_0, hcz13_1, hcz13_2, hcz13_3, hcz13_4⟩ := c5_ BK332.out
   obtain ⟨hfz13_0, hfz13_1, hfz13_2, hfz13_3, hfz13_4⟩ := f5_ BK332.out
   go_wp2
   repeat (go_quiet (fail); try go_wp2)
   go_meet
   case rel => exact ⟨_, (decide ((a0_4.size : Int) > 65535)), vq_, H', ⟨by first | omega | exact Nat.le_refl _⟩, ⟨mb_ BK332.out⟩, ⟨bs_ GE332.out⟩⟩
  rw [if_neg c8] at H
  have c8b0 : ((a0_1.size : Int) == 32) = false := beq_eq_false_iff_ne.mpr c8
  have c8b1 : ((a0_1.size : Int) != 32) = true := bne_iff_ne.mpr c8
  have H' := Aside0.mk H
  clear H
  obtain ⟨hcz14_0, hcz14_1, hcz14_2, hcz14_3, hcz14_4⟩ := c5_ BK332.out
  obtain ⟨hfz14_0, hfz14_1, hfz14_2, hfz14_3, hfz14_4⟩ := f5_ BK332.out
  go_wp2
  repeat (go_quiet (fail); try go_wp2)
  go_meet
  case rel => exact ⟨_, (true), vq_, H', ⟨by first | omega | exact Nat.le_refl _⟩, ⟨mb_ BK332.out⟩, ⟨bs_ GE332.out⟩⟩
 case rest =>
  clear HC2
  obtain ⟨kq, x35_1, rfl, HA, HJ1, BK332, HB⟩ := hcut
  cases kq with
  | zero => exact absurd HA.out (by simp [Je.j0])
  | succ kj1 =>
   have H := HA.out
   clear HA
   simp only [Je.j0] at H
   by_cases c15 : x35_1 = true
   ·subst c15
    have H1 : (some false) = some r := by rw [if_pos rfl] at H; exact H
    clear H
    have H := H1
    clear H1
    obtain rfl := Option.some.inj H
    go_wp2
    repeat (go_quiet (fail); try go_wp2)
    go_ret
    exact ⟨er_, bs_ GE332.out⟩
   replace c15 := Bool.eq_false_iff.mpr c15
   subst c15
   have H1 : (if ((a0_0 == 1) != ((l0_2.length : Int) == 0)) = true then (Je.j1 kj1 true a0_0 a0_1 l0_2 a0_3 a0_4) else (if a0_0 = 4 then (Je.j1 kj1 ((a0_3.size : Int) != 32) a0_0 a0_1 l0_2 a0_3 a0_4) else (if a0_0 = 5 then (Je.j1 kj1 ((a0_3.size : Int) != 32) a0_0 a0_1 l0_2 a0_3 a0_4) else (Je.j1 kj1 false a0_0 a0_1 l0_2 a0_3 a0_4)))) = some r := by rw [if_neg (show ¬ (false = true) by decide)] at H; exact H
   clear H
   have H := H1
   clear H1
   have HC16 := Aside0.mk H
   clear H
   go_upto_region 3 with (fail)
   repeat (go_quiet (fail); go_upto_region 3 with (fail))
   go_cut [59] (fun v59 wc => ∃ (kq : Nat) (x59_15 : Bool), v59 = .bool x59_15 ∧ Aside0 (Je.j1 kq x59_15 a0_0 a0_1 l0_2 a0_3 a0_4 = some r) ∧ Aside0 (kq ≤ kj1) ∧ Aside0 (wc.heap[gb332]? = some (.cells #[.int .i64 a0_0, .string a0_1, (.slice A0_2 l0_2.length c0_2), .string a0_3, .string a0_4] 24 (0, 0))) ∧ Aside0 (Below w.heap.size w wc))
   case first =>
    have H := HC16.out
    clear HC16
    by_cases c17 : ((a0_0 == 1) != ((l0_2.length : Int) == 0)) = true
    ·rw [if_pos c17] at H
     have c17b0 : ((a0_0 == 1) != ((l0_2.length : Int) == 0)) = true := c17
     (have c17b1 : decide ((a0_0 == 1) = ((l0_2.length : Int) == 0)) = false := by simpa using c17)
     (have c17b2 : ((a0_0 == 1) == ((l0_2.length : Int) == 0)) = false := by simpa using c17)
     (have c17b3 : ¬ ((a0_0 == 1) = ((l0_2.length : Int) == 0)) := by simpa using c17)
     clear c17
     (first | rw [c17b0] | (simp only [i64_w, i32_w]; rw [c17b0]) | skip)
     have H' := Aside0.mk H
     clear H
     obtain ⟨hcz18_0, hcz18_1, hcz18_2, hcz18_3, hcz18_4⟩ := c5_ BK332.out
     obtain ⟨hfz18_0, hfz18_1, hfz18_2, hfz18_3, hfz18_4⟩ := f5_ BK332.out
     go_wp2
     repeat (go_quiet (fail); try go_wp2)
     go_meet
     case rel => exact ⟨_, (true), vq_, H', ⟨by have := HJ1.out; first | omega | exact Nat.le_refl _⟩, ⟨mb_ BK332.out⟩, ⟨bs_ GE332.out⟩⟩
    rw [if_neg c17] at H
    have c17b0 : ((a0_0 == 1) != ((l0_2.length : Int) == 0)) = false := by simpa using c17
    (have c17b1 : decide ((a0_0 == 1) = ((l0_2.length : Int) == 0)) = true := by simpa using c17)
    (have c17b2 : ((a0_0 == 1) == ((l0_2.length : Int) == 0)) = true := by simpa using c17)
    clear c17
    (first | rw [c17b0] | (simp only [i64_w, i32_w]; rw [c17b0]) | skip)
    by_cases c19 : a0_0 = 4
    ·rw [if_pos c19] at H
     have c19b0 : (a0_0 == 4) = true := beq_iff_eq.mpr c19
     have c19b1 : (a0_0 != 4) = false := bne_eq_false_iff_eq.mpr c19
     clear c19
     have H' := Aside0.mk H
     clear H
     obtain ⟨hcz20_0, hcz20_1, hcz20_2, hcz20_3, hcz20_4⟩ := c5_ BK332.out
     obtain ⟨hfz20_0, hfz20_1, hfz20_2, hfz20_3, hfz20_4⟩ := f5_ BK332.out
     go_wp2
     repeat (go_quiet (fail); try go_wp2)
     go_meet
     case rel => exact ⟨_, (((a0_3.size : Int) != 32)), vq_, H', ⟨by have := HJ1.out; first | omega | exact Nat.le_refl _⟩, ⟨mb_ BK332.out⟩, ⟨bs_ GE332.out⟩⟩
    rw [if_neg c19] at H
    have c19b0 : (a0_0 == 4) = false := beq_eq_false_iff_ne.mpr c19
    have c19b1 : (a0_0 != 4) = true := bne_iff_ne.mpr c19
    by_cases c21 : a0_0 = 5
    ·rw [if_pos c21] at H
     have c21b0 : (a0_0 == 5) = true := beq_iff_eq.mpr c21
     have c21b1 : (a0_0 != 5) = false := bne_eq_false_iff_eq.mpr c21
     clear c21
     have H' := Aside0.mk H
     clear H
     obtain ⟨hcz22_0, hcz22_1, hcz22_2, hcz22_3, hcz22_4⟩ := c5_ BK332.out
     obtain ⟨hfz22_0, hfz22_1, hfz22_2, hfz22_3, hfz22_4⟩ := f5_ BK332.out
     go_wp2
     repeat (go_quiet (fail); try go_wp2)
     go_meet
     case rel => exact ⟨_, (((a0_3.size : Int) != 32)), vq_, H', ⟨by have := HJ1.out; first | omega | exact Nat.le_refl _⟩, ⟨mb_ BK332.out⟩, ⟨bs_ GE332.out⟩⟩
    rw [if_neg c21] at H
    have c21b0 : (a0_0 == 5) = false := beq_eq_false_iff_ne.mpr c21
    have c21b1 : (a0_0 != 5) = true := bne_iff_ne.mpr c21
    have H' := Aside0.mk H
    clear H
    obtain ⟨hcz23_0, hcz23_1, hcz23_2, hcz23_3, hcz23_4⟩ := c5_ BK332.out
    obtain ⟨hfz23_0, hfz23_1, hfz23_2, hfz23_3, hfz23_4⟩ := f5_ BK332.out
    go_wp2
    repeat (go_quiet (fail); try go_wp2)
    go_meet
    case rel => exact ⟨_, (false), vq_, H', ⟨by have := HJ1.out; first | omega | exact Nat.le_refl _⟩, ⟨mb_ BK332.out⟩, ⟨bs_ GE332.out⟩⟩
   case rest =>
    clear HC16
    obtain ⟨kq, x59_15, rfl, HA, HJ15, BK332, HB⟩ := hcut
    cases kq with
    | zero => exact absurd HA.out (by simp [Je.j1])
    | succ kj15 =>
     have H := HA.out
     clear HA
     simp only [Je.j1] at H
     by_cases c24 : x59_15 = true
     ·subst c24
      have H1 : (some false) = some r := by rw [if_pos rfl] at H; exact H
      clear H
      have H := H1
      clear H1
      obtain rfl := Option.some.inj H
      go_wp2
      repeat (go_quiet (fail); try go_wp2)
      go_ret
      exact ⟨er_, bs_ GE332.out⟩
     replace c24 := Bool.eq_false_iff.mpr c24
     subst c24
     have H1 : (Je.l0 kj15 0 a0_0 a0_1 l0_2 a0_3 a0_4) = some r := by rw [if_neg (show ¬ (false = true) by decide)] at H; exact H
     clear H
     have H := H1
     clear H1
     have H' := Aside0.mk H
     clear H
     go_wp2
     repeat (go_quiet (fail); try go_wp2)
     go_loopg [3] kj15 (fun kq v3 w' => ∃ (x3_3 : Int), v3 = .int .i64 x3_3 ∧ Aside0 (Je.l0 kq x3_3 a0_0 a0_1 l0_2 a0_3 a0_4 = some r) ∧ Aside0 (kq ≤ kj15) ∧ Aside0 (w'.heap[gb332]? = some (.cells #[.int .i64 a0_0, .string a0_1, (.slice A0_2 l0_2.length c0_2), .string a0_3, .string a0_4] 24 (0, 0))) ∧ Aside0 (Below w.heap.size w w'))
     case atStart => exact ⟨(0), vq_, H', ⟨Nat.le_refl _⟩, ⟨mb_ BK332.out⟩, ⟨bs_ GE332.out⟩⟩
     case round =>
      clear H'
      obtain ⟨x3_3, rfl, HA, HK3, BK332, HB⟩ := hrel
      cases gk with
      | zero => exact absurd HA.out (by simp [Je.l0])
      | succ k3 =>
       have H := HA.out
       clear HA
       simp only [Je.l0] at H
       by_cases c25 : x3_3 < (l0_2.length : Int)
       ·rw [if_pos c25] at H
        have c25b0 : decide (x3_3 < (l0_2.length : Int)) = true := decide_eq_true c25
        clear c25
        revert H; refine nd_ fun c26 c26b0 H => ?_
        clear c26
        by_cases c27 : ((rdOf ByteArray.empty l0_2 x3_3).size : Int) = 32
        ·rw [if_pos c27] at H
         have c27b0 : (((rdOf ByteArray.empty l0_2 x3_3).size : Int) == 32) = true := beq_iff_eq.mpr c27
         have c27b1 : (((rdOf ByteArray.empty l0_2 x3_3).size : Int) != 32) = false := bne_eq_false_iff_eq.mpr c27
         clear c27
         by_cases c28 : x3_3 > 0
         ·rw [if_pos c28] at H
          have c28b0 : decide (0 < x3_3) = true := decide_eq_true c28
          clear c28
          generalize hji29 : (wrap64 (x3_3 - 1)) = ji29 at H
          have hji29w := (i64_w _).trans hji29
          revert H; refine nd_ fun c30 c30b0 => nd_ fun c31 c31b0 H => ?_
          clear c30 c31
          by_cases c32 : ((Op.bytesLess ((rdOf ByteArray.empty l0_2 (ji29)).toList) ((rdOf ByteArray.empty l0_2 x3_3).toList)) = true)
          ·rw [if_pos c32] at H
           have c32b0 : (Op.bytesLess ((rdOf ByteArray.empty l0_2 (ji29)).toList) ((rdOf ByteArray.empty l0_2 x3_3).toList)) = true := c32
           clear c32
           have H' := Aside0.mk H
           clear H
           obtain ⟨hcz33_0, hcz33_1, hcz33_2, hcz33_3, hcz33_4⟩ := c5_ BK332.out
           obtain ⟨hfz33_0, hfz33_1, hfz33_2, hfz33_3, hfz33_4⟩ := f5_ BK332.out
           have p333 : 0 ≤ (x3_3 : Int) := ae_
           have q333 : x3_3 < (l0_2.length : Int) := ae_
           obtain ⟨ad333, e333, hx333_0⟩ := Kd.at_string HR0_2.out x3_3 p333 q333
           cases e333
           replace hx333_0 := (HB.out.cell (World.block_lt_of_cell? w _ hx333_0)).trans hx333_0
           replace p333 := eq_true p333
           replace q333 := eq_true q333
           have p334 : 0 ≤ (x3_3 : Int) := ae_
           have q334 : x3_3 < (l0_2.length : Int) := ae_
           obtain ⟨ad334, e334, hx334_0⟩ := Kd.at_string HR0_2.out x3_3 p334 q334
           obtain rfl : ad333 = ad334 := (by injection e334)
           replace hx334_0 := (HB.out.cell (World.block_lt_of_cell? w _ hx334_0)).trans hx334_0
           replace p334 := eq_true p334
           replace q334 := eq_true q334
           have p335 : 0 ≤ ((ji29) : Int) := ae_
           have q335 : (ji29) < (l0_2.length : Int) := ae_
           obtain ⟨ad335, e335, hx335_0⟩ := Kd.at_string HR0_2.out (ji29) p335 q335
           obtain rfl : ad333 = ad335 := (by injection e335)
           replace hx335_0 := (HB.out.cell (World.block_lt_of_cell? w _ hx335_0)).trans hx335_0
           replace p335 := eq_true p335
           replace q335 := eq_true q335
           go_wp2
           repeat (go_quiet (fail); try go_wp2)
           go_roundg k3
           case measure => have := HJ1.out; have := HJ15.out; have := HK3.out; omega
           case rel => exact ⟨(wrap64 (x3_3 + 1)), vq_, H', ⟨by have := HJ1.out; have := HJ15.out; have := HK3.out; omega⟩, ⟨mb_ BK332.out⟩, ⟨bs_ GE332.out⟩⟩
          rw [if_neg c32] at H
          have c32b0 : (Op.bytesLess ((rdOf ByteArray.empty l0_2 (ji29)).toList) ((rdOf ByteArray.empty l0_2 x3_3).toList)) = false := by simpa using c32
          clear c32
          obtain rfl := Option.some.inj H
          obtain ⟨hcz34_0, hcz34_1, hcz34_2, hcz34_3, hcz34_4⟩ := c5_ BK332.out
          obtain ⟨hfz34_0, hfz34_1, hfz34_2, hfz34_3, hfz34_4⟩ := f5_ BK332.out
          have p333 : 0 ≤ (x3_3 : Int) := ae_
          have q333 : x3_3 < (l0_2.length : Int) := ae_
          obtain ⟨ad333, e333, hx333_0⟩ := Kd.at_string HR0_2.out x3_3 p333 q333
          cases e333
          replace hx333_0 := (HB.out.cell (World.block_lt_of_cell? w _ hx333_0)).trans hx333_0
          replace p333 := eq_true p333
          replace q333 := eq_true q333
          have p334 : 0 ≤ (x3_3 : Int) := ae_
          have q334 : x3_3 < (l0_2.length : Int) := ae_
          obtain ⟨ad334, e334, hx334_0⟩ := Kd.at_string HR0_2.out x3_3 p334 q334
          obtain rfl : ad333 = ad334 := (by injection e334)
          replace hx334_0 := (HB.out.cell (World.block_lt_of_cell? w _ hx334_0)).trans hx334_0
          replace p334 := eq_true p334
          replace q334 := eq_true q334
          have p335 : 0 ≤ ((ji29) : Int) := ae_
          have q335 : (ji29) < (l0_2.length : Int) := ae_
          obtain ⟨ad335, e335, hx335_0⟩ := Kd.at_string HR0_2.out (ji29) p335 q335
          obtain rfl : ad333 = ad335 := (by injection e335)
          replace hx335_0 := (HB.out.cell (World.block_lt_of_cell? w _ hx335_0)).trans hx335_0
          replace p335 := eq_true p335
          replace q335 := eq_true q335
          go_wp2
          repeat (go_quiet (fail); try go_wp2)
          go_ret
          exact ⟨by first | rfl | (simp [errW_none, errW_some] <;> rfl) | (simp only [← hji29]; first | rfl | (simp [errW_none, errW_some] <;> rfl)) | (simp [*, errW_none, errW_some] <;> rfl), bs_ GE332.out⟩
         rw [if_neg c28] at H
         have c28b0 : decide (0 < x3_3) = false := decide_eq_false c28
         clear c28
         have H' := Aside0.mk H
         clear H
         obtain ⟨hcz35_0, hcz35_1, hcz35_2, hcz35_3, hcz35_4⟩ := c5_ BK332.out
         obtain ⟨hfz35_0, hfz35_1, hfz35_2, hfz35_3, hfz35_4⟩ := f5_ BK332.out
         have p333 : 0 ≤ (x3_3 : Int) := ae_
         have q333 : x3_3 < (l0_2.length : Int) := ae_
         obtain ⟨ad333, e333, hx333_0⟩ := Kd.at_string HR0_2.out x3_3 p333 q333
         cases e333
         replace hx333_0 := (HB.out.cell (World.block_lt_of_cell? w _ hx333_0)).trans hx333_0
         replace p333 := eq_true p333
         replace q333 := eq_true q333
         go_wp2
         repeat (go_quiet (fail); try go_wp2)
         go_roundg k3
         case measure => have := HJ1.out; have := HJ15.out; have := HK3.out; omega
         case rel => exact ⟨(wrap64 (x3_3 + 1)), vq_, H', ⟨by have := HJ1.out; have := HJ15.out; have := HK3.out; omega⟩, ⟨mb_ BK332.out⟩, ⟨bs_ GE332.out⟩⟩
        rw [if_neg c27] at H
        have c27b0 : (((rdOf ByteArray.empty l0_2 x3_3).size : Int) == 32) = false := beq_eq_false_iff_ne.mpr c27
        have c27b1 : (((rdOf ByteArray.empty l0_2 x3_3).size : Int) != 32) = true := bne_iff_ne.mpr c27
        obtain rfl := Option.some.inj H
        obtain ⟨hcz36_0, hcz36_1, hcz36_2, hcz36_3, hcz36_4⟩ := c5_ BK332.out
        obtain ⟨hfz36_0, hfz36_1, hfz36_2, hfz36_3, hfz36_4⟩ := f5_ BK332.out
        have p333 : 0 ≤ (x3_3 : Int) := ae_
        have q333 : x3_3 < (l0_2.length : Int) := ae_
        obtain ⟨ad333, e333, hx333_0⟩ := Kd.at_string HR0_2.out x3_3 p333 q333
        cases e333
        replace hx333_0 := (HB.out.cell (World.block_lt_of_cell? w _ hx333_0)).trans hx333_0
        replace p333 := eq_true p333
        replace q333 := eq_true q333
        go_wp2
        repeat (go_quiet (fail); try go_wp2)
        go_ret
        exact ⟨er_, bs_ GE332.out⟩
       rw [if_neg c25] at H
       have c25b0 : decide (x3_3 < (l0_2.length : Int)) = false := decide_eq_false c25
       clear c25
       obtain rfl := Option.some.inj H
       obtain ⟨hcz37_0, hcz37_1, hcz37_2, hcz37_3, hcz37_4⟩ := c5_ BK332.out
       obtain ⟨hfz37_0, hfz37_1, hfz37_2, hfz37_3, hfz37_4⟩ := f5_ BK332.out
       go_wp2
       repeat (go_quiet (fail); try go_wp2)
       go_ret
       exact ⟨er_, bs_ GE332.out⟩

/-! ### Ud = palaverref01_Text: function 26 -/
def Ud.f (k : Nat) (a0 : ByteArray) : Option (ByteArray × Bool) := (Jc.f k (a0.size : Int) 2).bind fun bt336 => (if bt336.2 = true then (if bt336.1.size + a0.size ≤ 9223372036854775807 then (some (bt336.1 ++ a0, true)) else (none)) else (some ((⟨#[]⟩ : ByteArray), false)))
set_option maxHeartbeats 64000000 in
set_option maxRecDepth 100000 in
theorem Ud.calls (k : Nat) (a0 : ByteArray) (r1 : ByteArray) (r2 : Bool) (w : World) (h : Ud.f k a0 = some (r1, r2)) :
 Calls Tryz.prog 26 #[.string a0] w fun e w' => e = .returned (.tuple #[.string r1, .bool r2]) ∧ Below w.heap.size w w' := by
 have HB := Aside0.mk (Below.refl w.heap.size w)
 have H : ((Jc.f k (a0.size : Int) 2).bind fun bt336 => (if bt336.2 = true then (if bt336.1.size + a0.size ≤ 9223372036854775807 then (some (bt336.1 ++ a0, true)) else (none)) else (some ((⟨#[]⟩ : ByteArray), false)))) = some (r1, r2) := h
 clear h
 replace H := ob_ H
 obtain ⟨⟨t336, t337⟩, A20, H⟩ := H
 replace H : (if t337 = true then (if t336.size + a0.size ≤ 9223372036854775807 then (some (t336 ++ a0, true)) else (none)) else (some ((⟨#[]⟩ : ByteArray), false))) = some (r1, r2) := H
 have A2 := Aside0.mk A20
 clear A20
 by_cases c3 : t337 = true
 ·subst c3
  have H1 : (if t336.size + a0.size ≤ 9223372036854775807 then (some (t336 ++ a0, true)) else (none)) = some (r1, r2) := by rw [if_pos rfl] at H; exact H
  clear H
  have H := H1
  clear H1
  revert H; refine ne_ fun c4 c4b0 c4b1 H => ?_
  try have c4b2 : (9223372036854775807 < t336.size + a0.size) = False := eq_false (Nat.not_lt.2 c4)
  simp only [Option.some.injEq, Prod.mk.injEq] at H
  obtain ⟨rfl, rfl⟩ := H
  go_enter Tryz.func26, Tryz.ntmps26
  go_wp2_with (first | ((with_reducible refine gate_callee (f := 33) rfl ?_); refine gL_ 9 Tryz.func33 #[.int .i64 (a0.size : Int), .int .i64 2] ?_; (with_reducible refine (Jc.calls k (a0.size : Int) 2 t336 true _ A2.out).mono ?_); rintro e w5 ⟨rfl, hb⟩; refine ⟨_, rfl, ?_⟩; replace HB := Aside0.mk (below_step bl_ hb); clear hb))
  go_ret2
  exact ⟨er_, bl_⟩
 replace c3 := Bool.eq_false_iff.mpr c3
 subst c3
 have H1 : (some ((⟨#[]⟩ : ByteArray), false)) = some (r1, r2) := by rw [if_neg (show ¬ (false = true) by decide)] at H; exact H
 clear H
 have H := H1
 clear H1
 simp only [Option.some.injEq, Prod.mk.injEq] at H
 obtain ⟨rfl, rfl⟩ := H
 go_enter Tryz.func26, Tryz.ntmps26
 go_wp2_with (first | ((with_reducible refine gate_callee (f := 33) rfl ?_); refine gL_ 9 Tryz.func33 #[.int .i64 (a0.size : Int), .int .i64 2] ?_; (with_reducible refine (Jc.calls k (a0.size : Int) 2 t336 false _ A2.out).mono ?_); rintro e w6 ⟨rfl, hb⟩; refine ⟨_, rfl, ?_⟩; replace HB := Aside0.mk (below_step bl_ hb); clear hb))
 go_ret2
 exact ⟨er_, bl_⟩

/-! ### Jt = palaverref06_Content: function 10 -/
def Jt.l0 : Nat → ByteArray → ByteArray → Int → Int → ByteArray → List ByteArray → ByteArray → ByteArray → Option (ByteArray)
 | 0, _, _, _, _, _, _, _, _ => none
 | k + 1, x5, x7, x8, x339000, x339001, x339002, x339003, x339004 => if x8 < (x339002.length : Int) then (if 0 ≤ x8 then (if x7.size + (rdOf ByteArray.empty x339002 x8).size ≤ 9223372036854775807 then (Jt.l0 k x5 (x7 ++ (rdOf ByteArray.empty x339002 x8)) (wrap64 (x8 + 1)) x339000 x339001 x339002 x339003 x339004) else (none)) else (none)) else (if x7.size + x5.size ≤ 9223372036854775807 then (some (x7 ++ x5)) else (none))
def Jt.f (k : Nat) (a0_0 : Int) (a0_1 : ByteArray) (l0_2 : List ByteArray) (a0_3 : ByteArray) (a0_4 : ByteArray) : Option (ByteArray) := (Ud.f k a0_1).bind fun bt339 => ((Ud.f k a0_3).bind fun bt341 => ((some (([(a0_0) % 256] : List Int) : List Int)).bind fun y343 => (if (strOfNums y343).size + bt339.1.size ≤ 9223372036854775807 then ((some (([((l0_2.length : Int)) % 256] : List Int) : List Int)).bind fun y346 => (if ((strOfNums y343) ++ bt339.1).size + (strOfNums y346).size ≤ 9223372036854775807 then (Jt.l0 k bt341.1 (((strOfNums y343) ++ bt339.1) ++ (strOfNums y346)) 0 a0_0 a0_1 l0_2 a0_3 a0_4) else (none))) else (none))))
set_option maxHeartbeats 64000000 in
set_option maxRecDepth 100000 in
theorem Jt.calls (k : Nat) (a0_0 : Int) (a0_1 : ByteArray) (A0_2 : Option Addr) (c0_2 : Nat) (l0_2 : List ByteArray) (a0_3 : ByteArray) (a0_4 : ByteArray) (r : ByteArray) (w : World) (hr0_2 : Kd.C Kd.string w A0_2 l0_2.length l0_2) (hc0_2 : l0_2.length ≤ c0_2) (h : Jt.f k a0_0 a0_1 l0_2 a0_3 a0_4 = some r) :
 Calls Tryz.prog 10 #[.agg #[.int .i64 a0_0, .string a0_1, .slice A0_2 l0_2.length c0_2, .string a0_3, .string a0_4]] w fun e w' => e = .returned (.string r) ∧ Below w.heap.size w w' := by
 have hu24 := Tryz.underlying24
 have HR0_2 := Aside0.mk hr0_2
 have HC0_2 := Aside0.mk hc0_2
 clear hr0_2 hc0_2
 have HB := Aside0.mk (Below.refl w.heap.size w)
 have H : ((Ud.f k a0_1).bind fun bt339 => ((Ud.f k a0_3).bind fun bt341 => ((some (([(a0_0) % 256] : List Int) : List Int)).bind fun y343 => (if (strOfNums y343).size + bt339.1.size ≤ 9223372036854775807 then ((some (([((l0_2.length : Int)) % 256] : List Int) : List Int)).bind fun y346 => (if ((strOfNums y343) ++ bt339.1).size + (strOfNums y346).size ≤ 9223372036854775807 then (Jt.l0 k bt341.1 (((strOfNums y343) ++ bt339.1) ++ (strOfNums y346)) 0 a0_0 a0_1 l0_2 a0_3 a0_4) else (none))) else (none))))) = some r := h
 clear h
 replace H := ob_ H
 obtain ⟨⟨t339, t340⟩, A20, H⟩ := H
 replace H : ((Ud.f k a0_3).bind fun bt341 => ((some (([(a0_0) % 256] : List Int) : List Int)).bind fun y343 => (if (strOfNums y343).size + t339.size ≤ 9223372036854775807 then ((some (([((l0_2.length : Int)) % 256] : List Int) : List Int)).bind fun y346 => (if ((strOfNums y343) ++ t339).size + (strOfNums y346).size ≤ 9223372036854775807 then (Jt.l0 k bt341.1 (((strOfNums y343) ++ t339) ++ (strOfNums y346)) 0 a0_0 a0_1 l0_2 a0_3 a0_4) else (none))) else (none)))) = some r := H
 have A2 := Aside0.mk A20
 clear A20
 replace H := ob_ H
 obtain ⟨⟨t341, t342⟩, A30, H⟩ := H
 replace H : ((some (([(a0_0) % 256] : List Int) : List Int)).bind fun y343 => (if (strOfNums y343).size + t339.size ≤ 9223372036854775807 then ((some (([((l0_2.length : Int)) % 256] : List Int) : List Int)).bind fun y346 => (if ((strOfNums y343) ++ t339).size + (strOfNums y346).size ≤ 9223372036854775807 then (Jt.l0 k t341 (((strOfNums y343) ++ t339) ++ (strOfNums y346)) 0 a0_0 a0_1 l0_2 a0_3 a0_4) else (none))) else (none))) = some r := H
 have A3 := Aside0.mk A30
 clear A30
 revert H; refine oy_ fun y343 Ny343 => ne_ fun c4 c4b0 c4b1 => oy_ fun y346 Ny346 => ne_ fun c5 c5b0 c5b1 H => ?_
 try have c4b2 : (9223372036854775807 < (strOfNums y343).size + t339.size) = False := eq_false (Nat.not_lt.2 c4)
 try have c5b2 : (9223372036854775807 < ((strOfNums y343) ++ t339).size + (strOfNums y346).size) = False := eq_false (Nat.not_lt.2 c5)
 have H' := Aside0.mk H
 clear H
 go_enter Tryz.func10, Tryz.ntmps10
 go_wp2_with (first | ((with_reducible refine gate_dst (N := 1) rfl ?_); refine box_event ?hg (N := 1) ?hd (cs := #[.int .i64 a0_0, .string a0_1, .slice A0_2 l0_2.length c0_2, .string a0_3, .string a0_4]) (t := 24) ?hr ?_; (case hd => rfl); (case hg => rfl); (case hr => exact gr_); intro gb338 hg w6 hbox hb; have GE338 := Aside0.mk ((by rw [hg]; exact (below_size bl_) : w.heap.size ≤ gb338)); have GW338 := Aside0.mk ((by rw [hg]; exact (below_size bl_) : w.heap.size ≤ gb338)); have BK338 := Aside0.mk (hbox); replace HB := Aside0.mk (below_step bl_ hb); clear hb hbox hg; obtain ⟨hcz7_0, hcz7_1, hcz7_2, hcz7_3, hcz7_4⟩ := c5_ BK338.out; obtain ⟨hfz7_0, hfz7_1, hfz7_2, hfz7_3, hfz7_4⟩ := f5_ BK338.out) | ((with_reducible refine gate_callee (f := 26) rfl ?_); refine gL_ 12 Tryz.func26 #[.string a0_1] ?_; (with_reducible refine (Ud.calls k a0_1 t339 t340 _ A2.out).mono ?_); rintro e w8 ⟨rfl, hb⟩; refine ⟨_, rfl, ?_⟩; replace HB := Aside0.mk (below_step (bs_ GE338.out) hb); replace BK338 := Aside0.mk (blk_below (g := gb338) (o := .cells #[.int .i64 a0_0, .string a0_1, .slice A0_2 l0_2.length c0_2, .string a0_3, .string a0_4] 24 (0, 0)) (mb_ BK338.out) hb); clear hb; obtain ⟨hcz9_0, hcz9_1, hcz9_2, hcz9_3, hcz9_4⟩ := c5_ BK338.out; obtain ⟨hfz9_0, hfz9_1, hfz9_2, hfz9_3, hfz9_4⟩ := f5_ BK338.out) | ((with_reducible refine gate_callee (f := 26) rfl ?_); refine gL_ 18 Tryz.func26 #[.string a0_3] ?_; (with_reducible refine (Ud.calls k a0_3 t341 t342 _ A3.out).mono ?_); rintro e w10 ⟨rfl, hb⟩; refine ⟨_, rfl, ?_⟩; replace HB := Aside0.mk (below_step (bs_ GE338.out) hb); replace BK338 := Aside0.mk (blk_below (g := gb338) (o := .cells #[.int .i64 a0_0, .string a0_1, .slice A0_2 l0_2.length c0_2, .string a0_3, .string a0_4] 24 (0, 0)) (mb_ BK338.out) hb); clear hb; obtain ⟨hcz11_0, hcz11_1, hcz11_2, hcz11_3, hcz11_4⟩ := c5_ BK338.out; obtain ⟨hfz11_0, hfz11_1, hfz11_2, hfz11_3, hfz11_4⟩ := f5_ BK338.out) | ((with_reducible refine gate_dst (N := 24) rfl ?_); refine Kd.R_lit (Kd.int .u8) _ 5 ?hg (N := 24) ?hd (xs := ([(a0_0) % 256] : List Int)) (inner := [.int .u8 ((a0_0) % 256)]) (ok := fun _ => True) (okp := fun _ => True) ?hr ?hp (fun _ hk => hk) trivial (Below.refl _ _) (Nat.le_refl _) (by simp) ?_; (case hd => rfl); (case hg => rfl); (case hr => exact gr_); (case hp => exact (Reps.one (show Kd.M (Kd.int .u8) _ _ _ ((a0_0) % 256) [.int .u8 ((a0_0) % 256)] from rfl) (Reps.none _ _))); intro v344 w12 ho13 hb hg_ hnew_; clear hg_ hnew_; (first | rw [← Ny343.out] at ho13 | (simp only [Int.reduceToNat] at ho13; rw [← Ny343.out] at ho13)); replace BK338 := Aside0.mk (blk_below (g := gb338) (o := .cells #[.int .i64 a0_0, .string a0_1, .slice A0_2 l0_2.length c0_2, .string a0_3, .string a0_4] 24 (0, 0)) (mb_ BK338.out) hb); have HO345 := Aside0.mk (Kd.R_lower ho13 (below_size (bs_ GE338.out))); replace HB := Aside0.mk (below_step (bs_ GE338.out) hb); clear hb ho13; have hcv14 := own_string (P := Tryz.prog) Tryz.underlying68 Tryz.underlying5 Tryz.underlying9 (Kd.own_of_R HO345.out); obtain ⟨hcz15_0, hcz15_1, hcz15_2, hcz15_3, hcz15_4⟩ := c5_ BK338.out; obtain ⟨hfz15_0, hfz15_1, hfz15_2, hfz15_3, hfz15_4⟩ := f5_ BK338.out) | ((with_reducible refine gate_dst (N := 32) rfl ?_); refine Kd.R_lit (Kd.int .u8) _ 5 ?hg (N := 32) ?hd (xs := ([((l0_2.length : Int)) % 256] : List Int)) (inner := [.int .u8 (((l0_2.length : Int)) % 256)]) (ok := fun _ => True) (okp := fun _ => True) ?hr ?hp (fun _ hk => hk) trivial (Below.refl _ _) (Nat.le_refl _) (by simp) ?_; (case hd => rfl); (case hg => rfl); (case hr => exact gr_); (case hp => exact (Reps.one (show Kd.M (Kd.int .u8) _ _ _ (((l0_2.length : Int)) % 256) [.int .u8 (((l0_2.length : Int)) % 256)] from rfl) (Reps.none _ _))); intro v347 w16 ho17 hb hg_ hnew_; clear hg_ hnew_; (first | rw [← Ny346.out] at ho17 | (simp only [Int.reduceToNat] at ho17; rw [← Ny346.out] at ho17)); replace BK338 := Aside0.mk (blk_below (g := gb338) (o := .cells #[.int .i64 a0_0, .string a0_1, .slice A0_2 l0_2.length c0_2, .string a0_3, .string a0_4] 24 (0, 0)) (mb_ BK338.out) hb); have HO348 := Aside0.mk (Kd.R_lower (Kd.R_new' ho17 (Kd.R_lt (mv_ HO345.out))) (below_size (bs_ GE338.out))); replace HB := Aside0.mk (below_step (bs_ GE338.out) hb); replace HO345 := Aside0.mk (Kd.R_elder' (mv_ HO345.out) (Kd.R_base ho17) hb); clear hb ho17; have hcv18 := own_string (P := Tryz.prog) Tryz.underlying68 Tryz.underlying5 Tryz.underlying9 (Kd.own_of_R HO348.out)))
 go_loopg [7, 8] k (fun kq v7 v8 w' => ∃ (x7_1 : ByteArray) (x8_1 : Int), v7 = .string x7_1 ∧ v8 = .int .i64 x8_1 ∧ Aside0 (Jt.l0 kq t341 x7_1 x8_1 a0_0 a0_1 l0_2 a0_3 a0_4 = some r) ∧ Aside0 (kq ≤ k) ∧ Aside0 (w'.heap[gb338]? = some (.cells #[.int .i64 a0_0, .string a0_1, (.slice A0_2 l0_2.length c0_2), .string a0_3, .string a0_4] 24 (0, 0))) ∧ Aside0 (Below w.heap.size w w'))
 case atStart => exact ⟨(((strOfNums y343) ++ t339) ++ (strOfNums y346)), (0), vq_, vq_, H', ⟨Nat.le_refl _⟩, ⟨mb_ BK338.out⟩, ⟨bs_ GE338.out⟩⟩
 case round =>
  clear H'
  clear c4 c4b0 c4b1 c4b2 c5 c5b0 c5b1 c5b2 hcv14 hcv18 hcz11_0 hcz11_1 hcz11_2 hcz11_3 hcz11_4 hcz15_0 hcz15_1 hcz15_2 hcz15_3 hcz15_4 hcz7_0 hcz7_1 hcz7_2 hcz7_3 hcz7_4 hcz9_0 hcz9_1 hcz9_2 hcz9_3 hcz9_4 hfz11_0 hfz11_1 hfz11_2 hfz11_3 hfz11_4 hfz15_0 hfz15_1 hfz15_2 hfz15_3 hfz15_4 hfz7_0 hfz7_1 hfz7_2 hfz7_3 hfz7_4 hfz9_0 hfz9_1 hfz9_2 hfz9_3 hfz9_4
  obtain ⟨x7_1, x8_1, rfl, rfl, HA, HK1, BK338, HB⟩ := hrel
  cases gk with
  | zero => exact absurd HA.out (by simp [Jt.l0])
  | succ k1 =>
   have H := HA.out
   clear HA
   simp only [Jt.l0] at H
   by_cases c19 : x8_1 < (l0_2.length : Int)
   ·rw [if_pos c19] at H
    have c19b0 : decide (x8_1 < (l0_2.length : Int)) = true := decide_eq_true c19
    clear c19
    revert H; refine nd_ fun c20 c20b0 => ne_ fun c21 c21b0 c21b1 H => ?_
    try have c21b2 : (9223372036854775807 < x7_1.size + (rdOf ByteArray.empty l0_2 x8_1).size) = False := eq_false (Nat.not_lt.2 c21)
    clear c20
    have H' := Aside0.mk H
    clear H
    obtain ⟨hcz22_0, hcz22_1, hcz22_2, hcz22_3, hcz22_4⟩ := c5_ BK338.out
    obtain ⟨hfz22_0, hfz22_1, hfz22_2, hfz22_3, hfz22_4⟩ := f5_ BK338.out
    have p349 : 0 ≤ (x8_1 : Int) := ae_
    have q349 : x8_1 < (l0_2.length : Int) := ae_
    obtain ⟨ad349, e349, hx349_0⟩ := Kd.at_string HR0_2.out x8_1 p349 q349
    cases e349
    replace hx349_0 := (HB.out.cell (World.block_lt_of_cell? w _ hx349_0)).trans hx349_0
    replace p349 := eq_true p349
    replace q349 := eq_true q349
    go_wp2
    go_roundg k1
    case measure => have := HK1.out; omega
    case rel => exact ⟨(x7_1 ++ (rdOf ByteArray.empty l0_2 x8_1)), (wrap64 (x8_1 + 1)), vq_, vq_, H', ⟨by have := HK1.out; omega⟩, ⟨mb_ BK338.out⟩, ⟨bs_ GE338.out⟩⟩
   rw [if_neg c19] at H
   have c19b0 : decide (x8_1 < (l0_2.length : Int)) = false := decide_eq_false c19
   clear c19
   revert H; refine ne_ fun c23 c23b0 c23b1 H => ?_
   try have c23b2 : (9223372036854775807 < x7_1.size + t341.size) = False := eq_false (Nat.not_lt.2 c23)
   obtain rfl := Option.some.inj H
   obtain ⟨hcz24_0, hcz24_1, hcz24_2, hcz24_3, hcz24_4⟩ := c5_ BK338.out
   obtain ⟨hfz24_0, hfz24_1, hfz24_2, hfz24_3, hfz24_4⟩ := f5_ BK338.out
   go_wp2
   go_ret
   exact ⟨er_, bs_ GE338.out⟩

/-- A state of type 145 at block g of W; what its slices lead to came in by w0. -/
def IsS145 (w0 W : World) (g : Nat) (f0 : ByteArray) (f1 : Bool) : Prop := W.heap[g]? = some (.cells #[.string f0, .bool f1] 145 (0, 0)) ∧ w0.heap.size ≤ g
theorem IsS145.grown {w0 W : World} {g : Nat} {f0 : ByteArray} {f1 : Bool} {W1 : World} {row : Option Nat} (h : IsS145 w0 W g f0 f1) (hw : W.grownBy W1 row) (hne : some g ≠ row) : IsS145 w0 W1 g f0 f1 := by
 obtain ⟨hb, hg⟩ := h
 exact ⟨blk_grown hb hw hne, hg⟩
theorem IsS145.fresh {w0 W : World} {g : Nat} {f0 : ByteArray} {f1 : Bool} (h : IsS145 w0 W g f0 f1) : ∀ k, W.heap.size ≤ k → k ≠ g := by
 obtain ⟨hb, hg⟩ := h
 exact Kd.freshB hb
theorem IsS145.kept {w0 W : World} {g : Nat} {f0 : ByteArray} {f1 : Bool} {W1 : World} {S : Nat → Prop} (h : IsS145 w0 W g f0 f1) (hk : Kept W W1 S) (hne : ¬ S g) : IsS145 w0 W1 g f0 f1 := by
 obtain ⟨hb, hg⟩ := h
 exact ⟨blk_kept hb hk hne, hg⟩
theorem IsS145.below {w0 W : World} {g : Nat} {f0 : ByteArray} {f1 : Bool} {W1 : World} (h : IsS145 w0 W g f0 f1) (hw : Below W.heap.size W W1) : IsS145 w0 W1 g f0 f1 := h.grown (grown_of_below hw none) (by simp)
theorem IsS145.alloc {w0 W : World} {g : Nat} {f0 : ByteArray} {f1 : Bool} (h : IsS145 w0 W g f0 f1) (o : Obj) : IsS145 w0 (W.alloc o) g f0 f1 := h.below (below_alloc (Below.refl _ _) o)
theorem IsS145.drewN {w0 W : World} {g : Nat} {f0 : ByteArray} {f1 : Bool} (h : IsS145 w0 W g f0 f1) (m : Nat) : IsS145 w0 (W.drewN m) g f0 f1 := h
theorem IsS145.drew {w0 W : World} {g : Nat} {f0 : ByteArray} {f1 : Bool} (h : IsS145 w0 W g f0 f1) : IsS145 w0 W.drew g f0 f1 := h
theorem IsS145.at_ {w0 W : World} {g : Nat} {f0 : ByteArray} {f1 : Bool} {w' : World} {m : Nat} (hq : W.drewN m = w') (h : IsS145 w0 W g f0 f1) : IsS145 w0 w' g f0 f1 := by subst hq; exact IsS145.drewN h m
theorem IsS145.apart {w0 W : World} {g : Nat} {f0 : ByteArray} {f1 : Bool} {α : Type} {d : Kd α} {e : Nat} {base : Nat} {ok : Nat → Prop} {v : Value} {xs : List α} (h : IsS145 w0 W g f0 f1) (ho : d.R e W base ok v xs) (ht : ∀ q, q ∈ e :: d.E → q ≠ 145) : d.R e W base (fun k => ok k ∧ k ≠ g) v xs := by
 obtain ⟨hb, hg⟩ := h
 exact Kd.R_types ho hb ht
theorem IsS145.own_ne {w0 W : World} {g : Nat} {f0 : ByteArray} {f1 : Bool} {α : Type} {d : Kd α} {e : Nat} {base : Nat} {ok : Nat → Prop} {v : Value} {xs : List α} (h : IsS145 w0 W g f0 f1) (ho : d.R e W base ok v xs) (ht : e ≠ 145) : some g ≠ v.ownBlock := by
 obtain ⟨hb, hg⟩ := h
 exact Kd.R_ne ho hb ht
theorem IsS145.lt {w0 W : World} {g : Nat} {f0 : ByteArray} {f1 : Bool} (h : IsS145 w0 W g f0 f1) : g < W.heap.size := by
 obtain ⟨hb, hg⟩ := h
 exact blk_lt hb
theorem IsS145.ge {w0 W : World} {g : Nat} {f0 : ByteArray} {f1 : Bool} (h : IsS145 w0 W g f0 f1) : w0.heap.size ≤ g := by
 obtain ⟨hb, hg⟩ := h
 exact hg
theorem cellS145_0 {W : World} {g : Nat} {f0 : ByteArray} {f1 : Bool} (h : W.heap[g]? = some (.cells #[.string f0, .bool f1] 145 (0, 0))) : W.cell? ⟨g, 0, none⟩ = some (.string f0) := (blk_cell h 0).trans rfl
theorem IsS145.set_0 {w0 W : World} {g : Nat} {f0 : ByteArray} {f1 : Bool} (h : IsS145 w0 W g f0 f1) (x : ByteArray) : IsS145 w0 (W.setCell ⟨g, 0, none⟩ (.string x)) g x f1 := by
 obtain ⟨hb, hg⟩ := h
 exact ⟨by simpa using blk_set hb 0 (.string x), hg⟩
theorem cellS145_1 {W : World} {g : Nat} {f0 : ByteArray} {f1 : Bool} (h : W.heap[g]? = some (.cells #[.string f0, .bool f1] 145 (0, 0))) : W.cell? ⟨g, 1, none⟩ = some (.bool f1) := (blk_cell h 1).trans rfl
theorem IsS145.set_1 {w0 W : World} {g : Nat} {f0 : ByteArray} {f1 : Bool} (h : IsS145 w0 W g f0 f1) (x : Bool) : IsS145 w0 (W.setCell ⟨g, 1, none⟩ (.bool x)) g f0 x := by
 obtain ⟨hb, hg⟩ := h
 exact ⟨by simpa using blk_set hb 1 (.bool x), hg⟩
theorem IsS145.new (w0 W : World) (f0 : ByteArray) (f1 : Bool) (hB : Below w0.heap.size w0 W) : IsS145 w0 (W.alloc (.cells #[.string f0, .bool f1] 145)) W.heap.size f0 f1 := ⟨by simpa using heap_alloc_new W _, hB.size⟩

/-! ### U2 = octets_Read: function 86 -/
def U2.f (a0 : ByteArray) : Option (ByteArray × Bool) := some (a0, false)
set_option maxHeartbeats 64000000 in
set_option maxRecDepth 100000 in
theorem U2.calls (a0 : ByteArray) (r1 : ByteArray) (r2 : Bool) (w0 w : World) (hB : Below w0.heap.size w0 w) (h : U2.f a0 = some (r1, r2)) :
 Calls Tryz.prog 86 #[.string a0] w fun e w' => ∃ g_ : Nat, e = .returned (.pointer (some ⟨g_, 0, none⟩)) ∧ IsS145 w0 w' g_ r1 r2 ∧ Below w0.heap.size w0 w' ∧ Below w.heap.size w w' := by
 have hu145 := Tryz.underlying145
 have HBW := Aside0.mk (Below.refl w.heap.size w)
 have HW0 := Aside0.mk hB.size
 have HB := Aside0.mk hB
 clear hB
 have H : (some (a0, false)) = some (r1, r2) := h
 clear h
 simp only [Option.some.injEq, Prod.mk.injEq] at H
 obtain ⟨rfl, rfl⟩ := H
 go_enter Tryz.func86, Tryz.ntmps86
 go_wp2_with (first | ((with_reducible refine gate_dst (N := 5) rfl ?_); refine box_event ?hg (N := 5) ?hd (cs := #[.string a0, .bool false]) (t := 145) ?hr ?_; (case hd => rfl); (case hg => rfl); (case hr => exact gr_); intro gb350 hg w2 hbox hb; have GE350 := Aside0.mk ((Nat.le_trans HW0.out (by rw [hg]; exact (below_size (by repeat (first | (with_reducible first | exact HBW.out | apply lA_ | apply lN_ | apply lD_) | exact HBW.out))) : w.heap.size ≤ gb350) : w0.heap.size ≤ gb350)); have GW350 := Aside0.mk ((by rw [hg]; exact (below_size (by repeat (first | (with_reducible first | exact HBW.out | apply lA_ | apply lN_ | apply lD_) | exact HBW.out))) : w.heap.size ≤ gb350)); have BK350 := Aside0.mk (hbox); replace HB := Aside0.mk (below_step bl_ hb); replace HBW := Aside0.mk (below_step HBW.out hb); clear hb hbox hg))
 go_ret
 exact ⟨_, rfl, (show IsS145 w0 _ gb350 a0 false from ⟨mb_ BK350.out, GE350.out⟩), bs_ GE350.out, by repeat (first | (with_reducible first | exact HBW.out | apply lA_ | apply lN_ | apply lD_ | refine lS_ ?_ GW350.out) | exact HBW.out)⟩

/-! ### Js = octets_Reader_Take: function 89 -/
def Js.j0 : Nat → Int → Bool → ByteArray → Bool → Option (ByteArray × ByteArray × Bool)
 | 0, _, _, _, _ => none
 | k + 1, x1, x26, x1000, x1001 => if x26 = true then (some ((⟨#[]⟩ : ByteArray), x1000, true)) else (if 0 ≤ x1 then (if x1 ≤ (x1000.size : Int) then (some (x1000.extract 0 (x1 : Int).toNat, x1000.extract (x1 : Int).toNat x1000.size, x1001)) else (none)) else (none))
def Js.f (k : Nat) (s0_0 : ByteArray) (s0_1 : Bool) (a1 : Int) : Option (ByteArray × ByteArray × Bool) := if s0_1 = true then (Js.j0 k a1 true s0_0 s0_1) else (if a1 < 0 then (Js.j0 k a1 true s0_0 s0_1) else (Js.j0 k a1 (decide (a1 > (s0_0.size : Int))) s0_0 s0_1))
set_option maxHeartbeats 64000000 in
set_option maxRecDepth 100000 in
theorem Js.calls (k : Nat) (g : Nat) (s0_0 : ByteArray) (s0_1 : Bool) (a1 : Int) (r1 : ByteArray) (r2 : ByteArray) (r3 : Bool) (w0 w : World) (hI : IsS145 w0 w g s0_0 s0_1) (hB : Below w0.heap.size w0 w) (h : Js.f k s0_0 s0_1 a1 = some (r1, r2, r3)) :
 Calls Tryz.prog 89 #[.pointer (some ⟨g, 0, none⟩), .int .i64 a1] w fun e w' => e = .returned (.string r1) ∧ IsS145 w0 w' g r2 r3 ∧ Below w0.heap.size w0 w' ∧ KeepBut w w' g none := by
 have HI0 := Aside0.mk hI
 have HK := Aside0.mk (KeepBut.refl w g none)
 have HL := Aside0.mk hB.size
 clear hI
 have HW0 := Aside0.mk hB.size
 have HB := Aside0.mk hB
 clear hB
 have H : (if s0_1 = true then (Js.j0 k a1 true s0_0 s0_1) else (if a1 < 0 then (Js.j0 k a1 true s0_0 s0_1) else (Js.j0 k a1 (decide (a1 > (s0_0.size : Int))) s0_0 s0_1))) = some (r1, r2, r3) := h
 clear h
 have HC3 := Aside0.mk H
 clear H
 go_enter Tryz.func89, Tryz.ntmps89
 go_upto_region 1 with (fail)
 go_cut [26] (fun v26 wc => ∃ (kq : Nat) (x26_2 : Bool), v26 = .bool x26_2 ∧ Aside0 (Js.j0 kq a1 x26_2 s0_0 s0_1 = some (r1, r2, r3)) ∧ Aside0 (kq ≤ k) ∧ Aside0 (IsS145 w0 wc g s0_0 s0_1) ∧ Aside0 (KeepBut w wc g none) ∧ Aside0 (Below w0.heap.size w0 wc))
 case first =>
  have H := HC3.out
  clear HC3
  by_cases c4 : s0_1 = true
  ·subst c4
   have H1 : (Js.j0 k a1 true s0_0 true) = some (r1, r2, r3) := by rw [if_pos rfl] at H; exact H
   clear H
   have H := H1
   clear H1
   have H' := Aside0.mk H
   clear H
   obtain ⟨HGz5, hgz5⟩ := HI0.out
   have hcz5_0 := cellS145_0 HGz5
   have hcz5_1 := cellS145_1 HGz5
   have hfz5_0 := blk_frozen HGz5 0
   have hfz5_1 := blk_frozen HGz5 1
   clear HGz5 hgz5
   go_wp2
   go_meet
   case rel => exact ⟨_, (true), vq_, H', ⟨by first | omega | exact Nat.le_refl _⟩, ⟨by repeat (first | (with_reducible first | exact HI0.out | apply IsS145.alloc | apply IsS145.drewN | apply IsS145.drew | apply IsS145.set_0 | apply IsS145.set_1) | exact HI0.out)⟩, ⟨hk_⟩, ⟨bs_ (IsS145.ge HI0.out)⟩⟩
  replace c4 := Bool.eq_false_iff.mpr c4
  subst c4
  have H1 : (if a1 < 0 then (Js.j0 k a1 true s0_0 false) else (Js.j0 k a1 (decide (a1 > (s0_0.size : Int))) s0_0 false)) = some (r1, r2, r3) := by rw [if_neg (show ¬ (false = true) by decide)] at H; exact H
  clear H
  have H := H1
  clear H1
  by_cases c6 : a1 < 0
  ·rw [if_pos c6] at H
   have c6b0 : decide (a1 < 0) = true := decide_eq_true c6
   clear c6
   (first | rw [c6b0] | (simp only [i64_w, i32_w]; rw [c6b0]) | skip)
   have H' := Aside0.mk H
   clear H
   obtain ⟨HGz7, hgz7⟩ := HI0.out
   have hcz7_0 := cellS145_0 HGz7
   have hcz7_1 := cellS145_1 HGz7
   have hfz7_0 := blk_frozen HGz7 0
   have hfz7_1 := blk_frozen HGz7 1
   clear HGz7 hgz7
   go_wp2
   go_meet
   case rel => exact ⟨_, (true), vq_, H', ⟨by first | omega | exact Nat.le_refl _⟩, ⟨by repeat (first | (with_reducible first | exact HI0.out | apply IsS145.alloc | apply IsS145.drewN | apply IsS145.drew | apply IsS145.set_0 | apply IsS145.set_1) | exact HI0.out)⟩, ⟨hk_⟩, ⟨bs_ (IsS145.ge HI0.out)⟩⟩
  rw [if_neg c6] at H
  have c6b0 : decide (a1 < 0) = false := decide_eq_false c6
  clear c6
  (first | rw [c6b0] | (simp only [i64_w, i32_w]; rw [c6b0]) | skip)
  have H' := Aside0.mk H
  clear H
  obtain ⟨HGz8, hgz8⟩ := HI0.out
  have hcz8_0 := cellS145_0 HGz8
  have hcz8_1 := cellS145_1 HGz8
  have hfz8_0 := blk_frozen HGz8 0
  have hfz8_1 := blk_frozen HGz8 1
  clear HGz8 hgz8
  go_wp2
  go_meet
  case rel => exact ⟨_, (decide (a1 > (s0_0.size : Int))), vq_, H', ⟨by first | omega | exact Nat.le_refl _⟩, ⟨by repeat (first | (with_reducible first | exact HI0.out | apply IsS145.alloc | apply IsS145.drewN | apply IsS145.drew | apply IsS145.set_0 | apply IsS145.set_1) | exact HI0.out)⟩, ⟨hk_⟩, ⟨bs_ (IsS145.ge HI0.out)⟩⟩
 case rest =>
  clear HC3
  obtain ⟨kq, x26_2, rfl, HA, HJ2, HI0, HK, HB⟩ := hcut
  cases kq with
  | zero => exact absurd HA.out (by simp [Js.j0])
  | succ kj2 =>
   have H := HA.out
   clear HA
   simp only [Js.j0] at H
   by_cases c9 : x26_2 = true
   ·subst c9
    have H1 : (some ((⟨#[]⟩ : ByteArray), s0_0, true)) = some (r1, r2, r3) := by rw [if_pos rfl] at H; exact H
    clear H
    have H := H1
    clear H1
    simp only [Option.some.injEq, Prod.mk.injEq] at H
    obtain ⟨rfl, rfl, rfl⟩ := H
    obtain ⟨HGz10, hgz10⟩ := HI0.out
    have hcz10_0 := cellS145_0 HGz10
    have hcz10_1 := cellS145_1 HGz10
    have hfz10_0 := blk_frozen HGz10 0
    have hfz10_1 := blk_frozen HGz10 1
    clear HGz10 hgz10
    go_wp2
    go_ret
    exact ⟨er_, by repeat (first | (with_reducible first | exact HI0.out | apply IsS145.alloc | apply IsS145.drewN | apply IsS145.drew | apply IsS145.set_0 | apply IsS145.set_1) | exact HI0.out), bs_ (IsS145.ge HI0.out), hk_⟩
   replace c9 := Bool.eq_false_iff.mpr c9
   subst c9
   have H1 : (if 0 ≤ a1 then (if a1 ≤ (s0_0.size : Int) then (some (s0_0.extract 0 (a1 : Int).toNat, s0_0.extract (a1 : Int).toNat s0_0.size, s0_1)) else (none)) else (none)) = some (r1, r2, r3) := by rw [if_neg (show ¬ (false = true) by decide)] at H; exact H
   clear H
   have H := H1
   clear H1
   revert H; refine ne_ fun c11 c11b0 c11b1 => ne_ fun c12 c12b0 c12b1 H => ?_
   clear c11 c12
   have c13b0 := eq_true (ae_ : 0 ≤ a1)
   have c14b0 := eq_true (ae_ : a1 ≤ (s0_0.size : Int))
   simp only [Option.some.injEq, Prod.mk.injEq] at H
   obtain ⟨rfl, rfl, rfl⟩ := H
   obtain ⟨HGz15, hgz15⟩ := HI0.out
   have hcz15_0 := cellS145_0 HGz15
   have hcz15_1 := cellS145_1 HGz15
   have hfz15_0 := blk_frozen HGz15 0
   have hfz15_1 := blk_frozen HGz15 1
   clear HGz15 hgz15
   go_wp2
   go_ret
   exact ⟨er_, by repeat (first | (with_reducible first | exact HI0.out | apply IsS145.alloc | apply IsS145.drewN | apply IsS145.drew | apply IsS145.set_0 | apply IsS145.set_1) | exact HI0.out), bs_ (IsS145.ge HI0.out), hk_⟩

/-! ### Jy = octets_Reader_number: function 104 -/
def Jy.l0 : Nat → Int → List Int → Int → Int → ByteArray → Bool → Option (Int × ByteArray × Bool)
 | 0, _, _, _, _, _, _ => none
 | k + 1, x5, x11, x12, x13, x1000, x1001 => if x13 < x12 then (if 0 ≤ x13 then (if x13 < (x11.length : Int) then (Jy.l0 k (Go.bits .or .i64 (wrap64 (x5 * 256)) (wrap64 (rd x11 x13))) x11 x12 (wrap64 (x13 + 1)) x1000 x1001) else (none)) else (none)) else (some (x5, x1000, x1001))
def Jy.f (k : Nat) (s0_0 : ByteArray) (s0_1 : Bool) (a1 : Int) : Option (Int × ByteArray × Bool) := (Js.f k s0_0 s0_1 a1).bind fun bt351 => (if bt351.1.size ≤ 9223372036854775807 then ((some (bytesOf bt351.1 : List Int)).bind fun y354 => (Jy.l0 k 0 y354 (y354.length : Int) 0 bt351.2.1 bt351.2.2)) else (none))
set_option maxHeartbeats 64000000 in
set_option maxRecDepth 100000 in
theorem Jy.calls (k : Nat) (g : Nat) (s0_0 : ByteArray) (s0_1 : Bool) (a1 : Int) (r1 : Int) (r2 : ByteArray) (r3 : Bool) (w0 w : World) (hI : IsS145 w0 w g s0_0 s0_1) (hB : Below w0.heap.size w0 w) (h : Jy.f k s0_0 s0_1 a1 = some (r1, r2, r3)) :
 Calls Tryz.prog 104 #[.pointer (some ⟨g, 0, none⟩), .int .i64 a1] w fun e w' => e = .returned (.int .i64 r1) ∧ IsS145 w0 w' g r2 r3 ∧ Below w0.heap.size w0 w' ∧ KeepBut w w' g none := by
 have HI0 := Aside0.mk hI
 have HK := Aside0.mk (KeepBut.refl w g none)
 have HL := Aside0.mk hB.size
 clear hI
 have HW0 := Aside0.mk hB.size
 have HB := Aside0.mk hB
 clear hB
 have H : ((Js.f k s0_0 s0_1 a1).bind fun bt351 => (if bt351.1.size ≤ 9223372036854775807 then ((some (bytesOf bt351.1 : List Int)).bind fun y354 => (Jy.l0 k 0 y354 (y354.length : Int) 0 bt351.2.1 bt351.2.2)) else (none))) = some (r1, r2, r3) := h
 clear h
 replace H := ob_ H
 obtain ⟨⟨t351, t352, t353⟩, A30, H⟩ := H
 replace H : (if t351.size ≤ 9223372036854775807 then ((some (bytesOf t351 : List Int)).bind fun y354 => (Jy.l0 k 0 y354 (y354.length : Int) 0 t352 t353)) else (none)) = some (r1, r2, r3) := H
 have A3 := Aside0.mk A30
 clear A30
 revert H; refine ne_ fun c4 c4b0 c4b1 => oy_ fun y354 Ny354 H => ?_
 try have c4b2 : (9223372036854775807 < t351.size) = False := eq_false (Nat.not_lt.2 c4)
 clear c4
 have H' := Aside0.mk H
 clear H
 go_enter Tryz.func104, Tryz.ntmps104
 go_wp2_with (first | ((with_reducible refine gate_callee (f := 89) rfl ?_); refine gL_ 10 Tryz.func89 #[.pointer (some ⟨g, 0, none⟩), .int .i64 a1] ?_; (with_reducible refine (Js.calls k g s0_0 s0_1 a1 t351 t352 t353 w0 _ ?side1 ?side2 A3.out).mono ?_); (case side1 => repeat (first | (with_reducible first | exact HI0.out | apply IsS145.alloc | apply IsS145.drewN | apply IsS145.drew | apply IsS145.set_0 | apply IsS145.set_1) | exact HI0.out)); (case side2 => repeat (first | (with_reducible first | exact HB.out | apply lA_ | apply lN_ | apply lD_ | refine lS_ ?_ (IsS145.ge HI0.out)) | exact HB.out)); rintro e w5 ⟨rfl, hi, hb, hk⟩; refine ⟨_, rfl, ?_⟩; replace HI0 := Aside0.mk (hi); replace HB := Aside0.mk (hb); replace HK := Aside0.mk (KeepBut.trans hk_ hk (.inl rfl)); clear hb hk hi) | ((with_reducible refine gate_dst (N := 11) rfl ?_); refine conv_event (P := Tryz.prog) rfl (N := 11) rfl 9 68 5 _ rfl t351 rfl Ny354.out Tryz.underlying9 Tryz.underlying68 Tryz.underlying5 (ae_) ?_; intro A357 c357 w6 hR_ hC_ hb; replace HB := Aside0.mk (below_step (bs_ (IsS145.ge HI0.out)) hb); replace HK := Aside0.mk (KeepBut.trans hk_ (KeepBut.of_below hb g none) (.inl rfl)); replace HI0 := Aside0.mk (IsS145.below (by repeat (first | (with_reducible first | exact HI0.out | apply IsS145.alloc | apply IsS145.drewN | apply IsS145.drew | apply IsS145.set_0 | apply IsS145.set_1) | exact HI0.out)) hb); clear hb; have HR357 := Aside0.mk hR_; have HC357 := Aside0.mk hC_; clear hR_ hC_))
 go_loopg [5, 13] k (fun kq v5 v13 w' => ∃ (x5_1 : Int) (x13_1 : Int), v5 = .int .i64 x5_1 ∧ v13 = .int .i64 x13_1 ∧ Aside0 (Jy.l0 kq x5_1 y354 (y354.length : Int) x13_1 t352 t353 = some (r1, r2, r3)) ∧ Aside0 (kq ≤ k) ∧ Aside0 (Kd.C (Kd.int .u8) w' A357 y354.length y354) ∧ Aside0 (IsS145 w0 w' g t352 t353) ∧ Aside0 (KeepBut w w' g none) ∧ Aside0 (Below w0.heap.size w0 w'))
 case atStart => exact ⟨(0), (0), vq_, vq_, H', ⟨Nat.le_refl _⟩, ⟨by repeat (first | (with_reducible exact HR357.out) | (with_reducible refine Kd.C_alloc ?_ _) | (with_reducible refine Kd.C_drewN ?_ _) | (with_reducible refine Kd.C_drew ?_) | exact HR357.out)⟩, ⟨by repeat (first | (with_reducible first | exact HI0.out | apply IsS145.alloc | apply IsS145.drewN | apply IsS145.drew | apply IsS145.set_0 | apply IsS145.set_1) | exact HI0.out)⟩, ⟨hk_⟩, ⟨bs_ (IsS145.ge HI0.out)⟩⟩
 case round =>
  clear H'
  clear c4b0 c4b1 c4b2
  obtain ⟨x5_1, x13_1, rfl, rfl, HA, HK1, HR357, HI0, HK, HB⟩ := hrel
  cases gk with
  | zero => exact absurd HA.out (by simp [Jy.l0])
  | succ k1 =>
   have H := HA.out
   clear HA
   simp only [Jy.l0] at H
   by_cases c7 : x13_1 < (y354.length : Int)
   ·rw [if_pos c7] at H
    have c7b0 : decide (x13_1 < (y354.length : Int)) = true := decide_eq_true c7
    clear c7
    revert H; refine nd_ fun c8 c8b0 => nd_ fun c9 c9b0 H => ?_
    clear c8 c9
    have H' := Aside0.mk H
    clear H
    have p358 : 0 ≤ (x13_1 : Int) := ae_
    have q358 : x13_1 < (y354.length : Int) := ae_
    obtain ⟨ad358, e358, hx358_0⟩ := Kd.at_int (by repeat (first | (with_reducible exact HR357.out) | (with_reducible refine Kd.C_alloc ?_ _) | (with_reducible refine Kd.C_drewN ?_ _) | (with_reducible refine Kd.C_drew ?_) | exact HR357.out)) x13_1 p358 q358
    cases e358
    replace p358 := eq_true p358
    replace q358 := eq_true q358
    go_wp2
    go_roundg k1
    case measure => have := HK1.out; omega
    case rel => exact ⟨(Go.bits .or .i64 (wrap64 (x5_1 * 256)) (wrap64 (rd y354 x13_1))), (wrap64 (x13_1 + 1)), vq_, vq_, H', ⟨by have := HK1.out; omega⟩, ⟨by repeat (first | (with_reducible exact HR357.out) | (with_reducible refine Kd.C_alloc ?_ _) | (with_reducible refine Kd.C_drewN ?_ _) | (with_reducible refine Kd.C_drew ?_) | exact HR357.out)⟩, ⟨by repeat (first | (with_reducible first | exact HI0.out | apply IsS145.alloc | apply IsS145.drewN | apply IsS145.drew | apply IsS145.set_0 | apply IsS145.set_1) | exact HI0.out)⟩, ⟨hk_⟩, ⟨bs_ (IsS145.ge HI0.out)⟩⟩
   rw [if_neg c7] at H
   have c7b0 : decide (x13_1 < (y354.length : Int)) = false := decide_eq_false c7
   clear c7
   simp only [Option.some.injEq, Prod.mk.injEq] at H
   obtain ⟨rfl, rfl, rfl⟩ := H
   go_wp2
   go_ret
   exact ⟨er_, by repeat (first | (with_reducible first | exact HI0.out | apply IsS145.alloc | apply IsS145.drewN | apply IsS145.drew | apply IsS145.set_0 | apply IsS145.set_1) | exact HI0.out), bs_ (IsS145.ge HI0.out), hk_⟩

/-! ### Ug = octets_Reader_Short: function 87 -/
def Ug.f (k : Nat) (s0_0 : ByteArray) (s0_1 : Bool) : Option (Int × ByteArray × Bool) := (Jy.f k s0_0 s0_1 2).bind fun bt359 => (some (bt359.1, bt359.2.1, bt359.2.2))
set_option maxHeartbeats 64000000 in
set_option maxRecDepth 100000 in
theorem Ug.calls (k : Nat) (g : Nat) (s0_0 : ByteArray) (s0_1 : Bool) (r1 : Int) (r2 : ByteArray) (r3 : Bool) (w0 w : World) (hI : IsS145 w0 w g s0_0 s0_1) (hB : Below w0.heap.size w0 w) (h : Ug.f k s0_0 s0_1 = some (r1, r2, r3)) :
 Calls Tryz.prog 87 #[.pointer (some ⟨g, 0, none⟩)] w fun e w' => e = .returned (.int .i64 r1) ∧ IsS145 w0 w' g r2 r3 ∧ Below w0.heap.size w0 w' ∧ KeepBut w w' g none := by
 have HI0 := Aside0.mk hI
 have HK := Aside0.mk (KeepBut.refl w g none)
 have HL := Aside0.mk hB.size
 clear hI
 have HW0 := Aside0.mk hB.size
 have HB := Aside0.mk hB
 clear hB
 have H : ((Jy.f k s0_0 s0_1 2).bind fun bt359 => (some (bt359.1, bt359.2.1, bt359.2.2))) = some (r1, r2, r3) := h
 clear h
 replace H := ob_ H
 obtain ⟨⟨t359, t360, t361⟩, A20, H⟩ := H
 replace H : (some (t359, t360, t361)) = some (r1, r2, r3) := H
 have A2 := Aside0.mk A20
 clear A20
 simp only [Option.some.injEq, Prod.mk.injEq] at H
 obtain ⟨rfl, rfl, rfl⟩ := H
 go_enter Tryz.func87, Tryz.ntmps87
 go_wp2_with (first | ((with_reducible refine gate_callee (f := 104) rfl ?_); refine gL_ 4 Tryz.func104 #[.pointer (some ⟨g, 0, none⟩), .int .i64 2] ?_; (with_reducible refine (Jy.calls k g s0_0 s0_1 2 t359 t360 t361 w0 _ ?side1 ?side2 A2.out).mono ?_); (case side1 => repeat (first | (with_reducible first | exact HI0.out | apply IsS145.alloc | apply IsS145.drewN | apply IsS145.drew | apply IsS145.set_0 | apply IsS145.set_1) | exact HI0.out)); (case side2 => repeat (first | (with_reducible first | exact HB.out | apply lA_ | apply lN_ | apply lD_ | refine lS_ ?_ (IsS145.ge HI0.out)) | exact HB.out)); rintro e w3 ⟨rfl, hi, hb, hk⟩; refine ⟨_, rfl, ?_⟩; replace HI0 := Aside0.mk (hi); replace HB := Aside0.mk (hb); replace HK := Aside0.mk (KeepBut.trans hk_ hk (.inl rfl)); clear hb hk hi))
 go_ret
 exact ⟨er_, by repeat (first | (with_reducible first | exact HI0.out | apply IsS145.alloc | apply IsS145.drewN | apply IsS145.drew | apply IsS145.set_0 | apply IsS145.set_1) | exact HI0.out), bs_ (IsS145.ge HI0.out), hk_⟩

/-! ### Up = octets_Reader_Good: function 105 -/
def Up.f (s0_0 : ByteArray) (s0_1 : Bool) : Option (Bool × ByteArray × Bool) := some (!s0_1, s0_0, s0_1)
set_option maxHeartbeats 64000000 in
set_option maxRecDepth 100000 in
theorem Up.calls (g : Nat) (s0_0 : ByteArray) (s0_1 : Bool) (r1 : Bool) (r2 : ByteArray) (r3 : Bool) (w0 w : World) (hI : IsS145 w0 w g s0_0 s0_1) (hB : Below w0.heap.size w0 w) (h : Up.f s0_0 s0_1 = some (r1, r2, r3)) :
 Calls Tryz.prog 105 #[.pointer (some ⟨g, 0, none⟩)] w fun e w' => e = .returned (.bool r1) ∧ IsS145 w0 w' g r2 r3 ∧ Below w0.heap.size w0 w' ∧ KeepBut w w' g none := by
 have HI0 := Aside0.mk hI
 have HK := Aside0.mk (KeepBut.refl w g none)
 have HL := Aside0.mk hB.size
 clear hI
 have HW0 := Aside0.mk hB.size
 have HB := Aside0.mk hB
 clear hB
 have H : (some (!s0_1, s0_0, s0_1)) = some (r1, r2, r3) := h
 clear h
 simp only [Option.some.injEq, Prod.mk.injEq] at H
 obtain ⟨rfl, rfl, rfl⟩ := H
 obtain ⟨HGz2, hgz2⟩ := HI0.out
 have hcz2_0 := cellS145_0 HGz2
 have hcz2_1 := cellS145_1 HGz2
 have hfz2_0 := blk_frozen HGz2 0
 have hfz2_1 := blk_frozen HGz2 1
 clear HGz2 hgz2
 go_enter Tryz.func105, Tryz.ntmps105
 go_wp2
 go_ret
 exact ⟨er_, by repeat (first | (with_reducible first | exact HI0.out | apply IsS145.alloc | apply IsS145.drewN | apply IsS145.drew | apply IsS145.set_0 | apply IsS145.set_1) | exact HI0.out), bs_ (IsS145.ge HI0.out), hk_⟩

/-! ### Ul = octets_Reader_Left: function 88 -/
def Ul.f (s0_0 : ByteArray) (s0_1 : Bool) : Option (Int × ByteArray × Bool) := (Up.f s0_0 s0_1).bind fun bt362 => (if bt362.1 = true then (some ((bt362.2.1.size : Int), bt362.2.1, bt362.2.2)) else (some (0, bt362.2.1, bt362.2.2)))
set_option maxHeartbeats 64000000 in
set_option maxRecDepth 100000 in
theorem Ul.calls (g : Nat) (s0_0 : ByteArray) (s0_1 : Bool) (r1 : Int) (r2 : ByteArray) (r3 : Bool) (w0 w : World) (hI : IsS145 w0 w g s0_0 s0_1) (hB : Below w0.heap.size w0 w) (h : Ul.f s0_0 s0_1 = some (r1, r2, r3)) :
 Calls Tryz.prog 88 #[.pointer (some ⟨g, 0, none⟩)] w fun e w' => e = .returned (.int .i64 r1) ∧ IsS145 w0 w' g r2 r3 ∧ Below w0.heap.size w0 w' ∧ KeepBut w w' g none := by
 have HI0 := Aside0.mk hI
 have HK := Aside0.mk (KeepBut.refl w g none)
 have HL := Aside0.mk hB.size
 clear hI
 have HW0 := Aside0.mk hB.size
 have HB := Aside0.mk hB
 clear hB
 have H : ((Up.f s0_0 s0_1).bind fun bt362 => (if bt362.1 = true then (some ((bt362.2.1.size : Int), bt362.2.1, bt362.2.2)) else (some (0, bt362.2.1, bt362.2.2)))) = some (r1, r2, r3) := h
 clear h
 replace H := ob_ H
 obtain ⟨⟨t362, t363, t364⟩, A20, H⟩ := H
 replace H : (if t362 = true then (some ((t363.size : Int), t363, t364)) else (some (0, t363, t364))) = some (r1, r2, r3) := H
 have A2 := Aside0.mk A20
 clear A20
 by_cases c3 : t362 = true
 ·subst c3
  have H1 : (some ((t363.size : Int), t363, t364)) = some (r1, r2, r3) := by rw [if_pos rfl] at H; exact H
  clear H
  have H := H1
  clear H1
  simp only [Option.some.injEq, Prod.mk.injEq] at H
  obtain ⟨rfl, rfl, rfl⟩ := H
  go_enter Tryz.func88, Tryz.ntmps88
  go_wp2_with (first | ((with_reducible refine gate_callee (f := 105) rfl ?_); refine gL_ 4 Tryz.func105 #[.pointer (some ⟨g, 0, none⟩)] ?_; (with_reducible refine (Up.calls g s0_0 s0_1 true t363 t364 w0 _ ?side1 ?side2 A2.out).mono ?_); (case side1 => repeat (first | (with_reducible first | exact HI0.out | apply IsS145.alloc | apply IsS145.drewN | apply IsS145.drew | apply IsS145.set_0 | apply IsS145.set_1) | exact HI0.out)); (case side2 => repeat (first | (with_reducible first | exact HB.out | apply lA_ | apply lN_ | apply lD_ | refine lS_ ?_ (IsS145.ge HI0.out)) | exact HB.out)); rintro e w4 ⟨rfl, hi, hb, hk⟩; refine ⟨_, rfl, ?_⟩; replace HI0 := Aside0.mk (hi); replace HB := Aside0.mk (hb); replace HK := Aside0.mk (KeepBut.trans hk_ hk (.inl rfl)); clear hb hk hi; obtain ⟨HGz5, hgz5⟩ := HI0.out; have hcz5_0 := cellS145_0 HGz5; have hcz5_1 := cellS145_1 HGz5; have hfz5_0 := blk_frozen HGz5 0; have hfz5_1 := blk_frozen HGz5 1; clear HGz5 hgz5))
  go_ret
  exact ⟨er_, by repeat (first | (with_reducible first | exact HI0.out | apply IsS145.alloc | apply IsS145.drewN | apply IsS145.drew | apply IsS145.set_0 | apply IsS145.set_1) | exact HI0.out), bs_ (IsS145.ge HI0.out), hk_⟩
 replace c3 := Bool.eq_false_iff.mpr c3
 subst c3
 have H1 : (some (0, t363, t364)) = some (r1, r2, r3) := by rw [if_neg (show ¬ (false = true) by decide)] at H; exact H
 clear H
 have H := H1
 clear H1
 simp only [Option.some.injEq, Prod.mk.injEq] at H
 obtain ⟨rfl, rfl, rfl⟩ := H
 go_enter Tryz.func88, Tryz.ntmps88
 go_wp2_with (first | ((with_reducible refine gate_callee (f := 105) rfl ?_); refine gL_ 4 Tryz.func105 #[.pointer (some ⟨g, 0, none⟩)] ?_; (with_reducible refine (Up.calls g s0_0 s0_1 false t363 t364 w0 _ ?side1 ?side2 A2.out).mono ?_); (case side1 => repeat (first | (with_reducible first | exact HI0.out | apply IsS145.alloc | apply IsS145.drewN | apply IsS145.drew | apply IsS145.set_0 | apply IsS145.set_1) | exact HI0.out)); (case side2 => repeat (first | (with_reducible first | exact HB.out | apply lA_ | apply lN_ | apply lD_ | refine lS_ ?_ (IsS145.ge HI0.out)) | exact HB.out)); rintro e w6 ⟨rfl, hi, hb, hk⟩; refine ⟨_, rfl, ?_⟩; replace HI0 := Aside0.mk (hi); replace HB := Aside0.mk (hb); replace HK := Aside0.mk (KeepBut.trans hk_ hk (.inl rfl)); clear hb hk hi))
 go_ret
 exact ⟨er_, by repeat (first | (with_reducible first | exact HI0.out | apply IsS145.alloc | apply IsS145.drewN | apply IsS145.drew | apply IsS145.set_0 | apply IsS145.set_1) | exact HI0.out), bs_ (IsS145.ge HI0.out), hk_⟩

end Go.Proofs.YtdodghifojkclaaGreatDoor.PP
