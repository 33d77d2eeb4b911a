/- By a program of this session's: a plain Lean function for a Go function, and its contract. -/
import Derived.Test.YtabgpdpdgkgmbaaDoorQ27
set_option linter.unusedVariables false
namespace Go.Proofs.YtabgpdpdgkgmbaaDoor.Q
open Go.RowKit Go.Proofs.YtabgpdpdgkgmbaaDoorW.PrintWords Go.Proofs.YtabgpdpdgkgmbaaDoorW.PrintLast
/-- What is left of the statement: no Go, no memory. -/
def depotlaw05_NameBack.Pure : Prop := ∀ (x0 : ByteArray) (x1 : List ByteArray), x0.size ≤ 140737488351232 → (∀ n ∈ (((x1).length * Tryd.prog.bytesOf 9) :: (x1).flatMap (fun y1 => [(y1).size])), n ≤ 140737488351232) → ((x1).length ≤ maxLen ∧ ∀ y1 ∈ x1, (y1).size ≤ maxLen) → ∃ k, depotlaw05_NameBack.f k (x0) (x1) = some true
end Go.Proofs.YtabgpdpdgkgmbaaDoor.Q
