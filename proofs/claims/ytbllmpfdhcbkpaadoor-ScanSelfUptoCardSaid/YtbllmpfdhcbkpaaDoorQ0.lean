/- By a program of this session's: a plain Lean function for a Go function, and its contract. -/
import Derived.Test.YtbllmpfdhcbkpaaDoorProg
import Derived.Below
import Derived.Deep.Draws
import Derived.Deep.AppendLies
import Derived.Maps.AppendAt
import Derived.OwnWalk
import Derived.Laws.BytesArg
import Derived.Laws.MakeOwn
import Derived.Laws.OwnMore
import Derived.Deep.OwnRows
import Derived.Tactics
import Derived.Lib.ConvBytes
import Derived.Laws.Slices
import Derived.WalkKit
import Derived.KernelRfl
import Derived.RowKit3
import Derived.Deep.LoopGhost
import Derived.Deep.QuietTactic
import Derived.BigQuiet
import Derived.WideLaws
import Derived.Deep.DeepCutAuto
import Derived.Deep.CutBlock
import Derived.Deep.RegionHeld3
import Derived.Laws.Rows
import Derived.Lib.AppendStr
import Derived.ArgAppend
import Derived.Laws.IdiomCopy
import Derived.OrdersHeld
import Derived.Laws.BitsLemmas
import Derived.RowKit
import Derived.Test.YtbllmpfdhcbkpaaDoorOrd
import Derived.Test.YtbllmpfdhcbkpaaDoorWordsMore
import Derived.Test.YtbllmpfdhcbkpaaDoorWWords
import Derived.Test.YtbllmpfdhcbkpaaDoorWLast
import Derived.Test.YtbllmpfdhcbkpaaDoorWTab
import Derived.Test.YtbllmpfdhcbkpaaDoorWFour
import Derived.Test.YtbllmpfdhcbkpaaDoorWQPut
import Derived.Test.YtbllmpfdhcbkpaaDoorWApart
import Derived.Test.YtbllmpfdhcbkpaaDoorWArr
import Derived.Test.YtbllmpfdhcbkpaaDoorWZeros
import Derived.Test.YtbllmpfdhcbkpaaDoorWFoot
import Derived.Test.YtbllmpfdhcbkpaaDoorWKept
import Derived.Test.YtbllmpfdhcbkpaaDoorWShare
import Derived.Test.YtbllmpfdhcbkpaaDoorWN
import Derived.Test.YtbllmpfdhcbkpaaDoorWFootNe
import Derived.Test.YtbllmpfdhcbkpaaDoorWAt
import Derived.Test.YtbllmpfdhcbkpaaDoorWEqStruct
import Derived.Test.YtbllmpfdhcbkpaaDoorWRepsOne
import Derived.Test.YtbllmpfdhcbkpaaDoorWInv
import Derived.Test.YtbllmpfdhcbkpaaDoorWInvWords
import Derived.Test.YtbllmpfdhcbkpaaDoorWGuard
import Derived.Test.YtbllmpfdhcbkpaaDoorWNEv
import Derived.Test.YtbllmpfdhcbkpaaDoorWMore
namespace Go.Proofs.YtbllmpfdhcbkpaaDoor.Q
open Go.RowKit Go.Proofs.YtbllmpfdhcbkpaaDoorW.PrintWords Go.Proofs.YtbllmpfdhcbkpaaDoorW.PrintLast Go.Proofs.YtbllmpfdhcbkpaaDoorW.PrintMore
attribute [local go_sem] max2_int min2_int max_two min_two max_three min_three max_four min_four Go.Proofs.YtbllmpfdhcbkpaaDoor.Ord.str_leq Go.Proofs.YtbllmpfdhcbkpaaDoor.Ord.str_gtr Go.Proofs.YtbllmpfdhcbkpaaDoor.Ord.str_geq   -- for this text's walks alone
set_option linter.unusedVariables false
set_option linter.unusedSimpArgs false



def errW : Option Int → Value
  | none => .nilIface
  | some c => .iface 0 (.int .i64 c)
theorem errW_none : errW none = .nilIface := rfl
theorem errW_some (c : Int) : errW (some c) = .iface 0 (.int .i64 c) := rfl

theorem info3 : (Tryd.prog.info? 3).map (fun i => (i.zero, i.size, i.bytes)) = some (some (.int .i64 0), 1, 8) := by kernel_rfl
theorem info5 : (Tryd.prog.info? 5).map (fun i => (i.zero, i.size, i.bytes)) = some (some (.int .u8 0), 1, 1) := by kernel_rfl
theorem info9 : (Tryd.prog.info? 9).map (fun i => (i.zero, i.size, i.bytes)) = some (some (.string ⟨#[]⟩), 1, 16) := by kernel_rfl
-- the values' own types

end Go.Proofs.YtbllmpfdhcbkpaaDoor.Q
