/- By a program of this session's: a plain Lean function for a Go function, and its contract. -/
import Derived.Test.YtabgpdpdgkgmbaaQ9
set_option linter.unusedVariables false
namespace Go.Proofs.Ytabgpdpdgkgmbaa.Q
open Go.RowKit Go.Proofs.YtabgpdpdgkgmbaaW.PrintWords Go.Proofs.YtabgpdpdgkgmbaaW.PrintLast
/-- What is left of the statement: no Go, no memory. -/
def depotlaw05_NameRises.Pure : Prop := ∀ (x0 : List ByteArray), (∀ n ∈ (((x0).length * Try.prog.bytesOf 9) :: (x0).flatMap (fun y1 => [(y1).size])), n ≤ 140737488351232) → ((x0).length ≤ maxLen ∧ ∀ y1 ∈ x0, (y1).size ≤ maxLen) → ∃ k, depotlaw05_NameRises.f k (x0) = some true
end Go.Proofs.Ytabgpdpdgkgmbaa.Q
