/-
  The words of the rounds, 0 to 15: each is the root of a prime.
  Conditions: none.
-/
import Derived.Test.YtlnodlhlbaigkaaDoorPPx10
namespace Go.Proofs.YtlnodlhlbaigkaaDoor.Sha
open Go.RowKit Go.Proofs.YtlnodlhlbaigkaaDoor.PP Go.Proofs.YtlnodlhlbaigkaaDoorW.PrintWords Go.Proofs.YtlnodlhlbaigkaaDoorW.PrintLast Go.Proofs.YtlnodlhlbaigkaaDoorW.PrintMore
set_option maxRecDepth 100000
theorem key_0 : palaverref02_Key.f 450 0 = some 1116352408 := by kernel_rfl
theorem key_1 : palaverref02_Key.f 450 1 = some 1899447441 := by kernel_rfl
theorem key_2 : palaverref02_Key.f 450 2 = some 3049323471 := by kernel_rfl
theorem key_3 : palaverref02_Key.f 450 3 = some 3921009573 := by kernel_rfl
theorem key_4 : palaverref02_Key.f 450 4 = some 961987163 := by kernel_rfl
theorem key_5 : palaverref02_Key.f 450 5 = some 1508970993 := by kernel_rfl
theorem key_6 : palaverref02_Key.f 450 6 = some 2453635748 := by kernel_rfl
theorem key_7 : palaverref02_Key.f 450 7 = some 2870763221 := by kernel_rfl
theorem key_8 : palaverref02_Key.f 450 8 = some 3624381080 := by kernel_rfl
theorem key_9 : palaverref02_Key.f 450 9 = some 310598401 := by kernel_rfl
theorem key_10 : palaverref02_Key.f 450 10 = some 607225278 := by kernel_rfl
theorem key_11 : palaverref02_Key.f 450 11 = some 1426881987 := by kernel_rfl
theorem key_12 : palaverref02_Key.f 450 12 = some 1925078388 := by kernel_rfl
theorem key_13 : palaverref02_Key.f 450 13 = some 2162078206 := by kernel_rfl
theorem key_14 : palaverref02_Key.f 450 14 = some 2614888103 := by kernel_rfl
theorem key_15 : palaverref02_Key.f 450 15 = some 3248222580 := by kernel_rfl
theorem start_0 : palaverref02_Start.f 450 0 = some 1779033703 := by kernel_rfl
theorem start_1 : palaverref02_Start.f 450 1 = some 3144134277 := by kernel_rfl
end Go.Proofs.YtlnodlhlbaigkaaDoor.Sha
