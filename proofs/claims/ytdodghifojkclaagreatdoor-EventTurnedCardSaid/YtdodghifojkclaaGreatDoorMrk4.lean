/-
  Trees: the document's levels, its root and its paths are the program's.
  Conditions: none.
-/
import Derived.Test.YtdodghifojkclaaGreatDoorMrk
import Derived.Test.YtdodghifojkclaaGreatDoorPPx3
namespace Go.Proofs.YtdodghifojkclaaGreatDoor.Sha
open Go.RowKit Go.Proofs.YtdodghifojkclaaGreatDoor.PP Go.Proofs.YtdodghifojkclaaGreatDoorW.PrintWords Go.Proofs.YtdodghifojkclaaGreatDoorW.PrintLast Go.Proofs.YtdodghifojkclaaGreatDoorW.PrintMore
set_option linter.unusedSimpArgs false
set_option linter.unusedVariables false

theorem hf2 (m : Nat) (h : m ≤ 1000) : wrap64 (Int.tdiv (m : Int) 2) = ((m / 2 : Nat) : Int) := by
  rw [Int.tdiv_eq_ediv_of_nonneg (by omega), w64 (by omega) (by omega)]
  omega
/-! one leaf turned -/
end Go.Proofs.YtdodghifojkclaaGreatDoor.Sha
