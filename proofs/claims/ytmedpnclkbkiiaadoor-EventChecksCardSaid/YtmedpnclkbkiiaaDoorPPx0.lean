-- WRITTEN BY a program of this work (wip/ownprint.py), for this seat
import Derived.Test.YtmedpnclkbkiiaaDoorProg
import Derived.Below
import Derived.Deep.Draws
import Derived.Deep.AppendLies
import Derived.Maps.AppendAt
import Derived.OwnWalk
import Derived.Laws.BytesArg
import Derived.Laws.MakeOwn
import Derived.Laws.OwnMore
import Derived.Deep.OwnRows
import Derived.Tactics
import Derived.Lib.ConvBytes
import Derived.Laws.Slices
import Derived.WalkKit
import Derived.KernelRfl
import Derived.RowKit3
import Derived.Deep.LoopGhost
import Derived.Deep.QuietTactic
import Derived.BigQuiet
import Derived.WideLaws
import Derived.Deep.DeepCutAuto
import Derived.Deep.CutBlock
import Derived.Deep.RegionHeld3
import Derived.Laws.Rows
import Derived.Lib.AppendStr
import Derived.ArgAppend
import Derived.Laws.IdiomCopy
import Derived.OrdersHeld
import Derived.Laws.BitsLemmas
import Derived.RowKit
import Derived.Test.YtmedpnclkbkiiaaDoorWWords
import Derived.Test.YtmedpnclkbkiiaaDoorWLast
import Derived.Test.YtmedpnclkbkiiaaDoorWTab
import Derived.Test.YtmedpnclkbkiiaaDoorWFour
import Derived.Test.YtmedpnclkbkiiaaDoorWQPut
import Derived.Test.YtmedpnclkbkiiaaDoorWApart
import Derived.Test.YtmedpnclkbkiiaaDoorWArr
import Derived.Test.YtmedpnclkbkiiaaDoorWZeros
import Derived.Test.YtmedpnclkbkiiaaDoorWFoot
import Derived.Test.YtmedpnclkbkiiaaDoorWKept
import Derived.Test.YtmedpnclkbkiiaaDoorWShare
import Derived.Test.YtmedpnclkbkiiaaDoorWN
import Derived.Test.YtmedpnclkbkiiaaDoorWFootNe
import Derived.Test.YtmedpnclkbkiiaaDoorWAt
import Derived.Test.YtmedpnclkbkiiaaDoorWEqStruct
import Derived.Test.YtmedpnclkbkiiaaDoorWRepsOne
import Derived.Test.YtmedpnclkbkiiaaDoorWInv
import Derived.Test.YtmedpnclkbkiiaaDoorWInvWords
import Derived.Test.YtmedpnclkbkiiaaDoorWGuard
import Derived.Test.YtmedpnclkbkiiaaDoorWNEv
import Derived.Test.YtmedpnclkbkiiaaDoorWMore
import Derived.Test.YtmedpnclkbkiiaaDoorOwnWords
import Derived.Test.YtmedpnclkbkiiaaDoorMarked
import Derived.Test.YtmedpnclkbkiiaaDoorBld
namespace Go.Proofs.YtmedpnclkbkiiaaDoor.PP
open Go.RowKit Go.Proofs.YtmedpnclkbkiiaaDoorW.PrintWords Go.Proofs.YtmedpnclkbkiiaaDoorW.PrintLast Go.Proofs.YtmedpnclkbkiiaaDoorW.PrintMore
attribute [local go_sem] max2_int min2_int max_two min_two max_three min_three max_four min_four   -- for this text's walks alone
set_option linter.unusedVariables false
set_option linter.unusedSimpArgs false



def errW : Option Int → Value
  | none => .nilIface
  | some c => .iface 0 (.int .i64 c)
theorem errW_none : errW none = .nilIface := rfl
theorem errW_some (c : Int) : errW (some c) = .iface 0 (.int .i64 c) := rfl

theorem info3 : (Tryd.prog.info? 3).map (fun i => (i.zero, i.size, i.bytes)) = some (some (.int .i64 0), 1, 8) := by kernel_rfl
theorem info5 : (Tryd.prog.info? 5).map (fun i => (i.zero, i.size, i.bytes)) = some (some (.int .u8 0), 1, 1) := by kernel_rfl
theorem info9 : (Tryd.prog.info? 9).map (fun i => (i.zero, i.size, i.bytes)) = some (some (.string ⟨#[]⟩), 1, 16) := by kernel_rfl
-- the values' own types

end Go.Proofs.YtmedpnclkbkiiaaDoor.PP
