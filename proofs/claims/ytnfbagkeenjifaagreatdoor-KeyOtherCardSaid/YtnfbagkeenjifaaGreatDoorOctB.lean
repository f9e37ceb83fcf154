import Derived.Test.YtnfbagkeenjifaaGreatDoorOct
namespace Go.Proofs.YtnfbagkeenjifaaGreatDoor.Oct
open Go.RowKit Go.Proofs.YtnfbagkeenjifaaGreatDoor.PP Go.Proofs.YtnfbagkeenjifaaGreatDoorW.PrintWords Go.Proofs.YtnfbagkeenjifaaGreatDoorW.PrintLast Go.Proofs.YtnfbagkeenjifaaGreatDoorW.PrintMore
set_option linter.unusedSimpArgs false
set_option linter.unusedVariables false

theorem ext_data (s : ByteArray) (a b : Nat) : (s.extract a b).data.toList = (s.data.toList.take b).drop a := by
  simp [List.drop_take]
theorem u64w (n : Int) : IntKind.u64.wrap n = n % 18446744073709551616 := by simp [IntKind.wrap, IntKind.bits, IntKind.signed]
theorem bytesOf_ext (s : ByteArray) (a b : Nat) : bytesOf (s.extract a b) = ((bytesOf s).take b).drop a := by
  unfold bytesOf
  rw [ext_data, List.map_drop, List.map_take]
theorem nums_bytes (s : ByteArray) : strOfNums (bytesOf s) = s := by
  apply ba_ext
  rw [strOfNums_data]
  unfold bytesOf
  rw [List.map_map]
  conv => rhs; rw [← List.map_id s.data.toList]
  refine List.map_congr_left fun c hc => ?_
  simp
theorem bytesOf_inj {a b : ByteArray} (h : bytesOf a = bytesOf b) : a = b := by rw [← nums_bytes a, h, nums_bytes]
theorem app_size (a b : ByteArray) : (a ++ b).size = a.size + b.size := by simp
/-- A text with its length. -/
def lay (s : ByteArray) : ByteArray := strOfNums [(s.size : Int) / 256, (s.size : Int) % 256] ++ s
end Go.Proofs.YtnfbagkeenjifaaGreatDoor.Oct
