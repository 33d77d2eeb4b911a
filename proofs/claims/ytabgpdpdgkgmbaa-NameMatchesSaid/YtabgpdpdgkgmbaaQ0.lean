/- By a program of this session's: a plain Lean function for a Go function, and its contract. -/
import Derived.Test.YtabgpdpdgkgmbaaProg
import Derived.Below
import Derived.Deep.Draws
import Derived.Deep.AppendLies
import Derived.Maps.AppendAt
import Derived.OwnWalk
import Derived.Laws.BytesArg
import Derived.Laws.MakeOwn
import Derived.Laws.OwnMore
import Derived.Deep.OwnRows
import Derived.Tactics
import Derived.Lib.ConvBytes
import Derived.Laws.Slices
import Derived.WalkKit
import Derived.KernelRfl
import Derived.RowKit3
import Derived.Deep.LoopGhost
import Derived.Deep.QuietTactic
import Derived.BigQuiet
import Derived.WideLaws
import Derived.Deep.DeepCutAuto
import Derived.Deep.CutBlock
import Derived.Deep.RegionHeld3
import Derived.Laws.Rows
import Derived.Lib.AppendStr
import Derived.ArgAppend
import Derived.Laws.IdiomCopy
import Derived.OrdersHeld
import Derived.Laws.BitsLemmas
import Derived.RowKit
import Derived.Test.YtabgpdpdgkgmbaaOrd
import Derived.Test.YtabgpdpdgkgmbaaWWords
import Derived.Test.YtabgpdpdgkgmbaaWLast
import Derived.Test.YtabgpdpdgkgmbaaWTab
import Derived.Test.YtabgpdpdgkgmbaaWFour
import Derived.Test.YtabgpdpdgkgmbaaWQPut
import Derived.Test.YtabgpdpdgkgmbaaWApart
import Derived.Test.YtabgpdpdgkgmbaaWArr
import Derived.Test.YtabgpdpdgkgmbaaWZeros
import Derived.Test.YtabgpdpdgkgmbaaWFoot
import Derived.Test.YtabgpdpdgkgmbaaWKept
import Derived.Test.YtabgpdpdgkgmbaaWShare
import Derived.Test.YtabgpdpdgkgmbaaWN
import Derived.Test.YtabgpdpdgkgmbaaWFootNe
import Derived.Test.YtabgpdpdgkgmbaaWAt
import Derived.Test.YtabgpdpdgkgmbaaWEqStruct
import Derived.Test.YtabgpdpdgkgmbaaWRepsOne
import Derived.Test.YtabgpdpdgkgmbaaWInv
import Derived.Test.YtabgpdpdgkgmbaaWInvWords
import Derived.Test.YtabgpdpdgkgmbaaWGuard
import Derived.Test.YtabgpdpdgkgmbaaWNEv
import Derived.Test.YtabgpdpdgkgmbaaWMore
namespace Go.Proofs.Ytabgpdpdgkgmbaa.Q
open Go.RowKit Go.Proofs.YtabgpdpdgkgmbaaW.PrintWords Go.Proofs.YtabgpdpdgkgmbaaW.PrintLast Go.Proofs.YtabgpdpdgkgmbaaW.PrintMore
attribute [local go_sem] max2_int min2_int max_two min_two max_three min_three max_four min_four Go.Proofs.Ytabgpdpdgkgmbaa.Ord.str_leq Go.Proofs.Ytabgpdpdgkgmbaa.Ord.str_gtr Go.Proofs.Ytabgpdpdgkgmbaa.Ord.str_geq   -- for this text's walks alone
set_option linter.unusedVariables false
set_option linter.unusedSimpArgs false



def errW : Option Int → Value
  | none => .nilIface
  | some c => .iface 0 (.int .i64 c)
theorem errW_none : errW none = .nilIface := rfl
theorem errW_some (c : Int) : errW (some c) = .iface 0 (.int .i64 c) := rfl

theorem info4 : (Try.prog.info? 4).map (fun i => (i.zero, i.size, i.bytes)) = some (some (.bool false), 1, 1) := by kernel_rfl
theorem info9 : (Try.prog.info? 9).map (fun i => (i.zero, i.size, i.bytes)) = some (some (.string ⟨#[]⟩), 1, 16) := by kernel_rfl
-- the values' own types

end Go.Proofs.Ytabgpdpdgkgmbaa.Q
