/-
  The words of the rounds, 32 to 47: each is the root of a prime.
  Conditions: none.
-/
import Derived.Test.YtlnodlhlbaigkaaDoorPPx10
namespace Go.Proofs.YtlnodlhlbaigkaaDoor.Sha
open Go.RowKit Go.Proofs.YtlnodlhlbaigkaaDoor.PP Go.Proofs.YtlnodlhlbaigkaaDoorW.PrintWords Go.Proofs.YtlnodlhlbaigkaaDoorW.PrintLast Go.Proofs.YtlnodlhlbaigkaaDoorW.PrintMore
set_option maxRecDepth 100000
theorem key_32 : palaverref02_Key.f 450 32 = some 666307205 := by kernel_rfl
theorem key_33 : palaverref02_Key.f 450 33 = some 773529912 := by kernel_rfl
theorem key_34 : palaverref02_Key.f 450 34 = some 1294757372 := by kernel_rfl
theorem key_35 : palaverref02_Key.f 450 35 = some 1396182291 := by kernel_rfl
theorem key_36 : palaverref02_Key.f 450 36 = some 1695183700 := by kernel_rfl
theorem key_37 : palaverref02_Key.f 450 37 = some 1986661051 := by kernel_rfl
theorem key_38 : palaverref02_Key.f 450 38 = some 2177026350 := by kernel_rfl
theorem key_39 : palaverref02_Key.f 450 39 = some 2456956037 := by kernel_rfl
theorem key_40 : palaverref02_Key.f 450 40 = some 2730485921 := by kernel_rfl
theorem key_41 : palaverref02_Key.f 450 41 = some 2820302411 := by kernel_rfl
theorem key_42 : palaverref02_Key.f 450 42 = some 3259730800 := by kernel_rfl
theorem key_43 : palaverref02_Key.f 450 43 = some 3345764771 := by kernel_rfl
theorem key_44 : palaverref02_Key.f 450 44 = some 3516065817 := by kernel_rfl
theorem key_45 : palaverref02_Key.f 450 45 = some 3600352804 := by kernel_rfl
theorem key_46 : palaverref02_Key.f 450 46 = some 4094571909 := by kernel_rfl
theorem key_47 : palaverref02_Key.f 450 47 = some 275423344 := by kernel_rfl
theorem start_4 : palaverref02_Start.f 450 4 = some 1359893119 := by kernel_rfl
theorem start_5 : palaverref02_Start.f 450 5 = some 2600822924 := by kernel_rfl
end Go.Proofs.YtlnodlhlbaigkaaDoor.Sha
