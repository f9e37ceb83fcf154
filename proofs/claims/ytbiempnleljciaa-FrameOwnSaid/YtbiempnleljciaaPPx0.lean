-- WRITTEN BY a program of this work (wip/ownprint.py), for this seat
import Derived.Test.YtbiempnleljciaaProg
import Derived.Below
import Derived.Deep.Draws
import Derived.Deep.AppendLies
import Derived.Maps.AppendAt
import Derived.OwnWalk
import Derived.Laws.BytesArg
import Derived.Laws.MakeOwn
import Derived.Laws.OwnMore
import Derived.Deep.OwnRows
import Derived.Tactics
import Derived.Lib.ConvBytes
import Derived.Laws.Slices
import Derived.WalkKit
import Derived.KernelRfl
import Derived.RowKit3
import Derived.Deep.LoopGhost
import Derived.Deep.QuietTactic
import Derived.BigQuiet
import Derived.WideLaws
import Derived.Deep.DeepCutAuto
import Derived.Deep.CutBlock
import Derived.Deep.RegionHeld3
import Derived.Laws.Rows
import Derived.Lib.AppendStr
import Derived.ArgAppend
import Derived.Laws.IdiomCopy
import Derived.OrdersHeld
import Derived.Laws.BitsLemmas
import Derived.RowKit
import Derived.Test.YtbiempnleljciaaWWords
import Derived.Test.YtbiempnleljciaaWLast
import Derived.Test.YtbiempnleljciaaWTab
import Derived.Test.YtbiempnleljciaaWFour
import Derived.Test.YtbiempnleljciaaWQPut
import Derived.Test.YtbiempnleljciaaWApart
import Derived.Test.YtbiempnleljciaaWArr
import Derived.Test.YtbiempnleljciaaWZeros
import Derived.Test.YtbiempnleljciaaWFoot
import Derived.Test.YtbiempnleljciaaWKept
import Derived.Test.YtbiempnleljciaaWShare
import Derived.Test.YtbiempnleljciaaWN
import Derived.Test.YtbiempnleljciaaWFootNe
import Derived.Test.YtbiempnleljciaaWAt
import Derived.Test.YtbiempnleljciaaWEqStruct
import Derived.Test.YtbiempnleljciaaWRepsOne
import Derived.Test.YtbiempnleljciaaWInv
import Derived.Test.YtbiempnleljciaaWInvWords
import Derived.Test.YtbiempnleljciaaWGuard
import Derived.Test.YtbiempnleljciaaWNEv
import Derived.Test.YtbiempnleljciaaWMore
import Derived.Test.YtbiempnleljciaaOwnWords
import Derived.Test.YtbiempnleljciaaBld
namespace Go.Proofs.Ytbiempnleljciaa.PP
open Go.RowKit Go.Proofs.YtbiempnleljciaaW.PrintWords Go.Proofs.YtbiempnleljciaaW.PrintLast Go.Proofs.YtbiempnleljciaaW.PrintMore
attribute [local go_sem] max2_int min2_int max_two min_two max_three min_three max_four min_four   -- for this text's walks alone
set_option linter.unusedVariables false
set_option linter.unusedSimpArgs false



def errW : Option Int → Value
  | none => .nilIface
  | some c => .iface 0 (.int .i64 c)
theorem errW_none : errW none = .nilIface := rfl
theorem errW_some (c : Int) : errW (some c) = .iface 0 (.int .i64 c) := rfl

theorem info5 : (Try.prog.info? 5).map (fun i => (i.zero, i.size, i.bytes)) = some (some (.int .u8 0), 1, 1) := by kernel_rfl
theorem info9 : (Try.prog.info? 9).map (fun i => (i.zero, i.size, i.bytes)) = some (some (.string ⟨#[]⟩), 1, 16) := by kernel_rfl
-- the values' own types

end Go.Proofs.Ytbiempnleljciaa.PP
