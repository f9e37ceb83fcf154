/-
  The words of the rounds, 48 to 63: each is the root of a prime.
  Conditions: none.
-/
import Derived.Test.YtlnodlhlbaigkaaDoorPPx10
namespace Go.Proofs.YtlnodlhlbaigkaaDoor.Sha
open Go.RowKit Go.Proofs.YtlnodlhlbaigkaaDoor.PP Go.Proofs.YtlnodlhlbaigkaaDoorW.PrintWords Go.Proofs.YtlnodlhlbaigkaaDoorW.PrintLast Go.Proofs.YtlnodlhlbaigkaaDoorW.PrintMore
set_option maxRecDepth 100000
theorem key_48 : palaverref02_Key.f 450 48 = some 430227734 := by kernel_rfl
theorem key_49 : palaverref02_Key.f 450 49 = some 506948616 := by kernel_rfl
theorem key_50 : palaverref02_Key.f 450 50 = some 659060556 := by kernel_rfl
theorem key_51 : palaverref02_Key.f 450 51 = some 883997877 := by kernel_rfl
theorem key_52 : palaverref02_Key.f 450 52 = some 958139571 := by kernel_rfl
theorem key_53 : palaverref02_Key.f 450 53 = some 1322822218 := by kernel_rfl
theorem key_54 : palaverref02_Key.f 450 54 = some 1537002063 := by kernel_rfl
theorem key_55 : palaverref02_Key.f 450 55 = some 1747873779 := by kernel_rfl
theorem key_56 : palaverref02_Key.f 450 56 = some 1955562222 := by kernel_rfl
theorem key_57 : palaverref02_Key.f 450 57 = some 2024104815 := by kernel_rfl
theorem key_58 : palaverref02_Key.f 450 58 = some 2227730452 := by kernel_rfl
theorem key_59 : palaverref02_Key.f 450 59 = some 2361852424 := by kernel_rfl
theorem key_60 : palaverref02_Key.f 450 60 = some 2428436474 := by kernel_rfl
theorem key_61 : palaverref02_Key.f 450 61 = some 2756734187 := by kernel_rfl
theorem key_62 : palaverref02_Key.f 450 62 = some 3204031479 := by kernel_rfl
theorem key_63 : palaverref02_Key.f 450 63 = some 3329325298 := by kernel_rfl
theorem start_6 : palaverref02_Start.f 450 6 = some 528734635 := by kernel_rfl
theorem start_7 : palaverref02_Start.f 450 7 = some 1541459225 := by kernel_rfl
end Go.Proofs.YtlnodlhlbaigkaaDoor.Sha
