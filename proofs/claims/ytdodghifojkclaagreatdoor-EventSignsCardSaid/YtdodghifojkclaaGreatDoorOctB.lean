import Derived.Test.YtdodghifojkclaaGreatDoorOct
namespace Go.Proofs.YtdodghifojkclaaGreatDoor.Oct
open Go.RowKit Go.Proofs.YtdodghifojkclaaGreatDoor.PP Go.Proofs.YtdodghifojkclaaGreatDoorW.PrintWords Go.Proofs.YtdodghifojkclaaGreatDoorW.PrintLast Go.Proofs.YtdodghifojkclaaGreatDoorW.PrintMore
set_option linter.unusedSimpArgs false
set_option linter.unusedVariables false

theorem ext_data (s : ByteArray) (a b : Nat) : (s.extract a b).data.toList = (s.data.toList.take b).drop a := by
  simp [List.drop_take]
theorem u64w (n : Int) : IntKind.u64.wrap n = n % 18446744073709551616 := by simp [IntKind.wrap, IntKind.bits, IntKind.signed]
theorem size_len (s : ByteArray) : s.size = s.data.toList.length := by simp
theorem app_size (a b : ByteArray) : (a ++ b).size = a.size + b.size := by simp
/-- A text with its length. -/
def lay (s : ByteArray) : ByteArray := strOfNums [(s.size : Int) / 256, (s.size : Int) % 256] ++ s
theorem lay_size (s : ByteArray) : (lay s).size = 2 + s.size := by unfold lay; rw [app_size, strOfNums_size]; rfl
end Go.Proofs.YtdodghifojkclaaGreatDoor.Oct
