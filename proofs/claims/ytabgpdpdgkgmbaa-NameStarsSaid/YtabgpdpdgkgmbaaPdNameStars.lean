/- By a program of this session's: a plain Lean function for a Go function, and its contract. -/
import Derived.Test.YtabgpdpdgkgmbaaQ12
set_option linter.unusedVariables false
namespace Go.Proofs.Ytabgpdpdgkgmbaa.Q
open Go.RowKit Go.Proofs.YtabgpdpdgkgmbaaW.PrintWords Go.Proofs.YtabgpdpdgkgmbaaW.PrintLast
/-- What is left of the statement: no Go, no memory. -/
def depotlaw05_NameStars.Pure : Prop := ∀ (x0 : S28) (x1 : ByteArray), (∀ n ∈ ([((x0).f0).size] ++ ([((x0).f1).size] ++ ([((x0).f2).size] ++ [((x0).f3).size]))), n ≤ 140737488351232) → (((x0).f0).size ≤ maxLen ∧ (((x0).f1).size ≤ maxLen ∧ (((x0).f2).size ≤ maxLen ∧ ((x0).f3).size ≤ maxLen))) → x1.size ≤ 140737488351232 → ∃ k, depotlaw05_NameStars.f k (x0.f0) (x0.f1) (x0.f2) (x0.f3) (x1) = some true
end Go.Proofs.Ytabgpdpdgkgmbaa.Q
