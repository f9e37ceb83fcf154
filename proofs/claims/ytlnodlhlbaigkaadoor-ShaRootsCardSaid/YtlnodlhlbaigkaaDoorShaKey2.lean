/-
  The words of the rounds, 16 to 31: each is the root of a prime.
  Conditions: none.
-/
import Derived.Test.YtlnodlhlbaigkaaDoorPPx10
namespace Go.Proofs.YtlnodlhlbaigkaaDoor.Sha
open Go.RowKit Go.Proofs.YtlnodlhlbaigkaaDoor.PP Go.Proofs.YtlnodlhlbaigkaaDoorW.PrintWords Go.Proofs.YtlnodlhlbaigkaaDoorW.PrintLast Go.Proofs.YtlnodlhlbaigkaaDoorW.PrintMore
set_option maxRecDepth 100000
theorem key_16 : palaverref02_Key.f 450 16 = some 3835390401 := by kernel_rfl
theorem key_17 : palaverref02_Key.f 450 17 = some 4022224774 := by kernel_rfl
theorem key_18 : palaverref02_Key.f 450 18 = some 264347078 := by kernel_rfl
theorem key_19 : palaverref02_Key.f 450 19 = some 604807628 := by kernel_rfl
theorem key_20 : palaverref02_Key.f 450 20 = some 770255983 := by kernel_rfl
theorem key_21 : palaverref02_Key.f 450 21 = some 1249150122 := by kernel_rfl
theorem key_22 : palaverref02_Key.f 450 22 = some 1555081692 := by kernel_rfl
theorem key_23 : palaverref02_Key.f 450 23 = some 1996064986 := by kernel_rfl
theorem key_24 : palaverref02_Key.f 450 24 = some 2554220882 := by kernel_rfl
theorem key_25 : palaverref02_Key.f 450 25 = some 2821834349 := by kernel_rfl
theorem key_26 : palaverref02_Key.f 450 26 = some 2952996808 := by kernel_rfl
theorem key_27 : palaverref02_Key.f 450 27 = some 3210313671 := by kernel_rfl
theorem key_28 : palaverref02_Key.f 450 28 = some 3336571891 := by kernel_rfl
theorem key_29 : palaverref02_Key.f 450 29 = some 3584528711 := by kernel_rfl
theorem key_30 : palaverref02_Key.f 450 30 = some 113926993 := by kernel_rfl
theorem key_31 : palaverref02_Key.f 450 31 = some 338241895 := by kernel_rfl
theorem start_2 : palaverref02_Start.f 450 2 = some 1013904242 := by kernel_rfl
theorem start_3 : palaverref02_Start.f 450 3 = some 2773480762 := by kernel_rfl
end Go.Proofs.YtlnodlhlbaigkaaDoor.Sha
