-- WRITTEN BY a program of this work (wip/ownprint.py), for this seat
import Derived.Test.YtlnodlhlbaigkaaDoorProg
import Derived.Below
import Derived.Deep.Draws
import Derived.Deep.AppendLies
import Derived.Maps.AppendAt
import Derived.OwnWalk
import Derived.Laws.BytesArg
import Derived.Laws.MakeOwn
import Derived.Laws.OwnMore
import Derived.Deep.OwnRows
import Derived.Tactics
import Derived.Lib.ConvBytes
import Derived.Laws.Slices
import Derived.WalkKit
import Derived.KernelRfl
import Derived.RowKit3
import Derived.Deep.LoopGhost
import Derived.Deep.QuietTactic
import Derived.BigQuiet
import Derived.WideLaws
import Derived.Deep.DeepCutAuto
import Derived.Deep.CutBlock
import Derived.Deep.RegionHeld3
import Derived.Laws.Rows
import Derived.Lib.AppendStr
import Derived.ArgAppend
import Derived.Laws.IdiomCopy
import Derived.OrdersHeld
import Derived.Laws.BitsLemmas
import Derived.RowKit
import Derived.Test.YtlnodlhlbaigkaaDoorWWords
import Derived.Test.YtlnodlhlbaigkaaDoorWLast
import Derived.Test.YtlnodlhlbaigkaaDoorWTab
import Derived.Test.YtlnodlhlbaigkaaDoorWFour
import Derived.Test.YtlnodlhlbaigkaaDoorWQPut
import Derived.Test.YtlnodlhlbaigkaaDoorWApart
import Derived.Test.YtlnodlhlbaigkaaDoorWArr
import Derived.Test.YtlnodlhlbaigkaaDoorWZeros
import Derived.Test.YtlnodlhlbaigkaaDoorWFoot
import Derived.Test.YtlnodlhlbaigkaaDoorWKept
import Derived.Test.YtlnodlhlbaigkaaDoorWShare
import Derived.Test.YtlnodlhlbaigkaaDoorWN
import Derived.Test.YtlnodlhlbaigkaaDoorWFootNe
import Derived.Test.YtlnodlhlbaigkaaDoorWAt
import Derived.Test.YtlnodlhlbaigkaaDoorWEqStruct
import Derived.Test.YtlnodlhlbaigkaaDoorWRepsOne
import Derived.Test.YtlnodlhlbaigkaaDoorWInv
import Derived.Test.YtlnodlhlbaigkaaDoorWInvWords
import Derived.Test.YtlnodlhlbaigkaaDoorWGuard
import Derived.Test.YtlnodlhlbaigkaaDoorWNEv
import Derived.Test.YtlnodlhlbaigkaaDoorWMore
import Derived.Test.YtlnodlhlbaigkaaDoorOwnWords
import Derived.Test.YtlnodlhlbaigkaaDoorMarked
import Derived.Test.YtlnodlhlbaigkaaDoorBld
namespace Go.Proofs.YtlnodlhlbaigkaaDoor.PP
open Go.RowKit Go.Proofs.YtlnodlhlbaigkaaDoorW.PrintWords Go.Proofs.YtlnodlhlbaigkaaDoorW.PrintLast Go.Proofs.YtlnodlhlbaigkaaDoorW.PrintMore
attribute [local go_sem] max2_int min2_int max_two min_two max_three min_three max_four min_four   -- for this text's walks alone
set_option linter.unusedVariables false
set_option linter.unusedSimpArgs false



def errW : Option Int → Value
  | none => .nilIface
  | some c => .iface 0 (.int .i64 c)
theorem errW_none : errW none = .nilIface := rfl
theorem errW_some (c : Int) : errW (some c) = .iface 0 (.int .i64 c) := rfl

theorem info5 : (Tryd.prog.info? 5).map (fun i => (i.zero, i.size, i.bytes)) = some (some (.int .u8 0), 1, 1) := by kernel_rfl
theorem info9 : (Tryd.prog.info? 9).map (fun i => (i.zero, i.size, i.bytes)) = some (some (.string ⟨#[]⟩), 1, 16) := by kernel_rfl
theorem info45 : (Tryd.prog.info? 45).map (fun i => (i.zero, i.size, i.bytes)) = some (some (.int .u64 0), 1, 8) := by kernel_rfl
-- the values' own types

end Go.Proofs.YtlnodlhlbaigkaaDoor.PP
