/- By a program of this session's: a plain Lean function for a Go function, and its contract. -/
import Derived.Test.YtabgpdpdgkgmbaaDoorExtKeeps5
set_option linter.unusedVariables false
namespace Go.Proofs.YtabgpdpdgkgmbaaDoor.Q
open Go.RowKit Go.Proofs.YtabgpdpdgkgmbaaDoorW.PrintWords Go.Proofs.YtabgpdpdgkgmbaaDoorW.PrintLast
/-- What is left of the statement: no Go, no memory. -/
def depotlaw05_NameKeeps.Pure : Prop := ∀ (x0 : List ByteArray) (x1 : ByteArray), (∀ n ∈ (((x0).length * Tryd.prog.bytesOf 9) :: (x0).flatMap (fun y5 => [(y5).size])), n ≤ 140737488351232) → ((x0).length ≤ maxLen ∧ ∀ y5 ∈ x0, (y5).size ≤ maxLen) → x1.size ≤ 140737488351232 → depotlaw05_NameKeeps.f (x0) (x1) = some true
end Go.Proofs.YtabgpdpdgkgmbaaDoor.Q
