/- By a program of this session's: a plain Lean function for a Go function, and its contract. -/
import Derived.Test.YtglhbbijoeeclaaQ25
set_option linter.unusedVariables false
namespace Go.Proofs.Ytglhbbijoeeclaa.Q
open Go.RowKit Go.Proofs.YtglhbbijoeeclaaW.PrintWords Go.Proofs.YtglhbbijoeeclaaW.PrintLast
/-- What is left of the statement: no Go, no memory. -/
def depotlaw13_SpathChecks.Pure : Prop := ∀ (x0 : ByteArray) (x1 : ByteArray) (x2 : List ByteArray), x0.size ≤ 140737488351232 → x1.size ≤ 140737488351232 → (∀ n ∈ (((x2).length * Try.prog.bytesOf 9) :: (x2).flatMap (fun y1 => [(y1).size])), n ≤ 140737488351232) → ((x2).length ≤ maxLen ∧ ∀ y1 ∈ x2, (y1).size ≤ maxLen) → ∃ k, depotlaw13_SpathChecks.f k (x0) (x1) (x2) = some true
end Go.Proofs.Ytglhbbijoeeclaa.Q
