import Derived.Test.YtnfbagkeenjifaaGreatDoorOct
namespace Go.Proofs.YtnfbagkeenjifaaGreatDoor.Oct
open Go.RowKit Go.Proofs.YtnfbagkeenjifaaGreatDoor.PP Go.Proofs.YtnfbagkeenjifaaGreatDoorW.PrintWords Go.Proofs.YtnfbagkeenjifaaGreatDoorW.PrintLast Go.Proofs.YtnfbagkeenjifaaGreatDoorW.PrintMore
set_option linter.unusedSimpArgs false
set_option linter.unusedVariables false

theorem ext_data (s : ByteArray) (a b : Nat) : (s.extract a b).data.toList = (s.data.toList.take b).drop a := by
  simp [List.drop_take]
theorem u64w (n : Int) : IntKind.u64.wrap n = n % 18446744073709551616 := by simp [IntKind.wrap, IntKind.bits, IntKind.signed]
theorem size_len (s : ByteArray) : s.size = s.data.toList.length := by simp
theorem bytesOf_nums (l : List Int) (h : ∀ c ∈ l, 0 ≤ c ∧ c < 256) : bytesOf (strOfNums l) = l := by
  unfold bytesOf
  rw [strOfNums_data, List.map_map]
  conv => rhs; rw [← List.map_id l]
  refine List.map_congr_left fun c hc => ?_
  have := h c hc
  simp
  omega
theorem bytesOf_app (a b : ByteArray) : bytesOf (a ++ b) = bytesOf a ++ bytesOf b := by
  unfold bytesOf
  rw [data_app, List.map_append]
theorem bytesOf_ext (s : ByteArray) (a b : Nat) : bytesOf (s.extract a b) = ((bytesOf s).take b).drop a := by
  unfold bytesOf
  rw [ext_data, List.map_drop, List.map_take]
theorem bytesOf_nil : bytesOf ⟨#[]⟩ = [] := rfl
theorem nums_bytes (s : ByteArray) : strOfNums (bytesOf s) = s := by
  apply ba_ext
  rw [strOfNums_data]
  unfold bytesOf
  rw [List.map_map]
  conv => rhs; rw [← List.map_id s.data.toList]
  refine List.map_congr_left fun c hc => ?_
  simp
theorem bytesOf_inj {a b : ByteArray} (h : bytesOf a = bytesOf b) : a = b := by rw [← nums_bytes a, h, nums_bytes]
theorem app_size (a b : ByteArray) : (a ++ b).size = a.size + b.size := by simp
/-- A text with its length. -/
def lay (s : ByteArray) : ByteArray := strOfNums [(s.size : Int) / 256, (s.size : Int) % 256] ++ s
theorem lay_size (s : ByteArray) : (lay s).size = 2 + s.size := by unfold lay; rw [app_size, strOfNums_size]; rfl
end Go.Proofs.YtnfbagkeenjifaaGreatDoor.Oct
