/- By a program of this session's: a plain Lean function for a Go function, and its contract. -/
import Derived.Test.YtnilogameaaooaaProg
import Derived.Below
import Derived.Deep.Draws
import Derived.Deep.AppendLies
import Derived.Maps.AppendAt
import Derived.OwnWalk
import Derived.Laws.BytesArg
import Derived.Laws.MakeOwn
import Derived.Laws.OwnMore
import Derived.Deep.OwnRows
import Derived.Tactics
import Derived.Lib.ConvBytes
import Derived.Laws.Slices
import Derived.WalkKit
import Derived.KernelRfl
import Derived.RowKit3
import Derived.Deep.LoopGhost
import Derived.Deep.QuietTactic
import Derived.BigQuiet
import Derived.WideLaws
import Derived.Deep.DeepCutAuto
import Derived.Deep.CutBlock
import Derived.Deep.RegionHeld3
import Derived.Laws.Rows
import Derived.Lib.AppendStr
import Derived.ArgAppend
import Derived.Laws.IdiomCopy
import Derived.OrdersHeld
import Derived.Laws.BitsLemmas
import Derived.RowKit
import Derived.Test.YtnilogameaaooaaOrd
import Derived.Test.YtnilogameaaooaaWordsMore
import Derived.Test.YtnilogameaaooaaWWords
import Derived.Test.YtnilogameaaooaaWLast
import Derived.Test.YtnilogameaaooaaWTab
import Derived.Test.YtnilogameaaooaaWFour
import Derived.Test.YtnilogameaaooaaWQPut
import Derived.Test.YtnilogameaaooaaWApart
import Derived.Test.YtnilogameaaooaaWArr
import Derived.Test.YtnilogameaaooaaWZeros
import Derived.Test.YtnilogameaaooaaWFoot
import Derived.Test.YtnilogameaaooaaWKept
import Derived.Test.YtnilogameaaooaaWShare
import Derived.Test.YtnilogameaaooaaWN
import Derived.Test.YtnilogameaaooaaWFootNe
import Derived.Test.YtnilogameaaooaaWAt
import Derived.Test.YtnilogameaaooaaWEqStruct
import Derived.Test.YtnilogameaaooaaWRepsOne
import Derived.Test.YtnilogameaaooaaWInv
import Derived.Test.YtnilogameaaooaaWInvWords
import Derived.Test.YtnilogameaaooaaWGuard
import Derived.Test.YtnilogameaaooaaWNEv
import Derived.Test.YtnilogameaaooaaWMore
namespace Go.Proofs.Ytnilogameaaooaa.Q
open Go.RowKit Go.Proofs.YtnilogameaaooaaW.PrintWords Go.Proofs.YtnilogameaaooaaW.PrintLast Go.Proofs.YtnilogameaaooaaW.PrintMore
attribute [local go_sem] max2_int min2_int max_two min_two max_three min_three max_four min_four Go.Proofs.Ytnilogameaaooaa.Ord.str_leq Go.Proofs.Ytnilogameaaooaa.Ord.str_gtr Go.Proofs.Ytnilogameaaooaa.Ord.str_geq   -- for this text's walks alone
set_option linter.unusedVariables false
set_option linter.unusedSimpArgs false



def errW : Option Int → Value
  | none => .nilIface
  | some c => .iface 0 (.int .i64 c)
theorem errW_none : errW none = .nilIface := rfl
theorem errW_some (c : Int) : errW (some c) = .iface 0 (.int .i64 c) := rfl

theorem info5 : (Try.prog.info? 5).map (fun i => (i.zero, i.size, i.bytes)) = some (some (.int .u8 0), 1, 1) := by kernel_rfl
-- the values' own types

end Go.Proofs.Ytnilogameaaooaa.Q
