-- WRITTEN BY a program of this work (wip/ownprint.py), for this seat
import Derived.Test.YtippjfgjehfhhaaProg
import Derived.Below
import Derived.Deep.Draws
import Derived.Deep.AppendLies
import Derived.Maps.AppendAt
import Derived.OwnWalk
import Derived.Laws.BytesArg
import Derived.Laws.MakeOwn
import Derived.Laws.OwnMore
import Derived.Deep.OwnRows
import Derived.Tactics
import Derived.Lib.ConvBytes
import Derived.Laws.Slices
import Derived.WalkKit
import Derived.KernelRfl
import Derived.RowKit3
import Derived.Deep.LoopGhost
import Derived.Deep.QuietTactic
import Derived.BigQuiet
import Derived.WideLaws
import Derived.Deep.DeepCutAuto
import Derived.Deep.CutBlock
import Derived.Deep.RegionHeld3
import Derived.Laws.Rows
import Derived.Lib.AppendStr
import Derived.ArgAppend
import Derived.Laws.IdiomCopy
import Derived.OrdersHeld
import Derived.Laws.BitsLemmas
import Derived.RowKit
import Derived.BigRegion
import Derived.Test.YtippjfgjehfhhaaWWords
import Derived.Test.YtippjfgjehfhhaaWLast
import Derived.Test.YtippjfgjehfhhaaWTab
import Derived.Test.YtippjfgjehfhhaaWFour
import Derived.Test.YtippjfgjehfhhaaWQPut
import Derived.Test.YtippjfgjehfhhaaWApart
import Derived.Test.YtippjfgjehfhhaaWArr
import Derived.Test.YtippjfgjehfhhaaWZeros
import Derived.Test.YtippjfgjehfhhaaWFoot
import Derived.Test.YtippjfgjehfhhaaWKept
import Derived.Test.YtippjfgjehfhhaaWShare
import Derived.Test.YtippjfgjehfhhaaWN
import Derived.Test.YtippjfgjehfhhaaWFootNe
import Derived.Test.YtippjfgjehfhhaaWAt
import Derived.Test.YtippjfgjehfhhaaWEqStruct
import Derived.Test.YtippjfgjehfhhaaWRepsOne
import Derived.Test.YtippjfgjehfhhaaWInv
import Derived.Test.YtippjfgjehfhhaaWInvWords
import Derived.Test.YtippjfgjehfhhaaWGuard
import Derived.Test.YtippjfgjehfhhaaWNEv
import Derived.Test.YtippjfgjehfhhaaWMore
import Derived.Test.YtippjfgjehfhhaaOwnWords
import Derived.Test.YtippjfgjehfhhaaMarked
namespace Go.Proofs.Ytippjfgjehfhhaa.PP
open Go.RowKit Go.Proofs.YtippjfgjehfhhaaW.PrintWords Go.Proofs.YtippjfgjehfhhaaW.PrintLast Go.Proofs.YtippjfgjehfhhaaW.PrintMore
attribute [local go_sem] max2_int min2_int max_two min_two max_three min_three max_four min_four   -- for this text's walks alone
set_option linter.unusedVariables false
set_option linter.unusedSimpArgs false



def errW : Option Int → Value
  | none => .nilIface
  | some c => .iface 0 (.int .i64 c)
theorem errW_none : errW none = .nilIface := rfl
theorem errW_some (c : Int) : errW (some c) = .iface 0 (.int .i64 c) := rfl

theorem info5 : (Try.prog.info? 5).map (fun i => (i.zero, i.size, i.bytes)) = some (some (.int .u8 0), 1, 1) := by kernel_rfl
-- the values' own types

end Go.Proofs.Ytippjfgjehfhhaa.PP
