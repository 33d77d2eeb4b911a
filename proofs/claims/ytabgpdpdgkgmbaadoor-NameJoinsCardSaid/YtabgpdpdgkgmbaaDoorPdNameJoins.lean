/- By a program of this session's: a plain Lean function for a Go function, and its contract. -/
import Derived.Test.YtabgpdpdgkgmbaaDoorQ32
set_option linter.unusedVariables false
namespace Go.Proofs.YtabgpdpdgkgmbaaDoor.Q
open Go.RowKit Go.Proofs.YtabgpdpdgkgmbaaDoorW.PrintWords Go.Proofs.YtabgpdpdgkgmbaaDoorW.PrintLast
/-- What is left of the statement: no Go, no memory. -/
def depotlaw05_NameJoins.Pure : Prop := ∀ (x0 : List ByteArray), (∀ n ∈ (((x0).length * Tryd.prog.bytesOf 9) :: (x0).flatMap (fun y3 => [(y3).size])), n ≤ 140737488351232) → ((x0).length ≤ maxLen ∧ ∀ y3 ∈ x0, (y3).size ≤ maxLen) → ∃ k, depotlaw05_NameJoins.f k (x0) = some true
end Go.Proofs.YtabgpdpdgkgmbaaDoor.Q
