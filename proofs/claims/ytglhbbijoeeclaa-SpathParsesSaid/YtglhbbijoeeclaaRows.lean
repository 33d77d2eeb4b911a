/-
  No cell of these rows narrows 'for every input' (looked for: loops, veiled, ifaces, maps, wideKeys, modest, calm, conditions, laid).
  DERIVED. THE GIVEN ROWS OF THIS SEAT. 3 by the template 'for every input the law returns true; each argument reads behind the call as it read before'; 0 by the template 'total and deterministic' (their statements: YtglhbbijoeeclaaTotals.lean).
  GIVEN WITH THE SEED: the statements are not yours to turn. If you find one false, say at which input.
  Laid BY PROGRAM, IN A SANDBOX (cutbox-rows.mjs): the forced cells as the released guide's own fill.sh prints them over the translation 37fa8e0002acf9d9… (all of the seat's roots in one cut). By AI agents, Wed Nov 11 2026. No macro, syntax, notation, axiom, sorry.
-/
import Derived.Test.YtglhbbijoeeclaaChecked
import GoSem.Claim
import GoSem.ClaimJoined
import GoSem.ClaimMapViews
import Derived.JoinedTies
import Derived.KernelRfl
namespace Go.Proofs.Ytglhbbijoeeclaa
/- THE CELL 'sum', in the pinned program and in every row, IS THE sha256 OF THE DUMP (.gsa) THAT YtglhbbijoeeclaaProg.lean LOADS. Nothing in Lean hashes anything: it is a label: what it is worth is what the hold of that sum in a sandbox is worth. -/
noncomputable def Try.pinned : Pinned := { name := "ytglhbbijoeeclaa", sum := "37fa8e0002acf9d96e7660311d67192d551d67cc7c144ae23c7c7655447767fd", checked := Try.checked }
namespace Rows
def none {H : Type} : Left H := { results := [], args := [] }

/-- 'depotlaw13.SpathLabels': WHATEVER THE INPUT: true; the input reads as it did. -/
def spathLabelsSpec : ChangeSpec := { name := "spathLabels", fn := fun _ => fun
  | [d] => { results := [.lit (.bool true)], args := [d] }
  | _ => none }
def spathLabelsRow : OpenClaim := { program := "ytglhbbijoeeclaa", sum := "37fa8e0002acf9d96e7660311d67192d551d67cc7c144ae23c7c7655447767fd", func := "depot/depotlaw13.SpathLabels", spec := "spathLabels", inPlace := ["internal/bytealg.IndexByteString", "internal/bytealg.IndexString"], named := ["internal/bytealg.MaxLen"], apart := false }
def SpathLabelsSaid : Prop := spathLabelsRow.holds Try.pinned (OpenSpec.ofChange spathLabelsSpec)

/-- ITS FALSE NEIGHBOUR: 'it returns false'. Refute it at one input. -/
def spathLabelsWrong : ChangeSpec := { name := "spathLabels", fn := fun _ => fun
  | [d] => { results := [.lit (.bool false)], args := [d] }
  | _ => none }
def SpathLabelsWrongFalsely : Prop := spathLabelsRow.holds Try.pinned (OpenSpec.ofChange spathLabelsWrong)

/-- 'depotlaw13.SpathChecks': WHATEVER THE INPUT: true; the input reads as it did. -/
def spathChecksSpec : ChangeSpec := { name := "spathChecks", fn := fun _ => fun
  | [d1, d2, d3] => { results := [.lit (.bool true)], args := [d1, d2, d3] }
  | _ => none }
def spathChecksRow : OpenClaim := { program := "ytglhbbijoeeclaa", sum := "37fa8e0002acf9d96e7660311d67192d551d67cc7c144ae23c7c7655447767fd", func := "depot/depotlaw13.SpathChecks", spec := "spathChecks", inPlace := ["internal/bytealg.IndexByteString", "internal/bytealg.IndexString"], named := ["internal/bytealg.MaxLen"], apart := false }
def SpathChecksSaid : Prop := spathChecksRow.holds Try.pinned (OpenSpec.ofChange spathChecksSpec)

/-- ITS FALSE NEIGHBOUR: 'it returns false'. Refute it at one input. -/
def spathChecksWrong : ChangeSpec := { name := "spathChecks", fn := fun _ => fun
  | [d1, d2, d3] => { results := [.lit (.bool false)], args := [d1, d2, d3] }
  | _ => none }
def SpathChecksWrongFalsely : Prop := spathChecksRow.holds Try.pinned (OpenSpec.ofChange spathChecksWrong)

/-- 'depotlaw13.SpathParses': WHATEVER THE INPUT: true; the input reads as it did. -/
def spathParsesSpec : ChangeSpec := { name := "spathParses", fn := fun _ => fun
  | [d1, d2] => { results := [.lit (.bool true)], args := [d1, d2] }
  | _ => none }
def spathParsesRow : OpenClaim := { program := "ytglhbbijoeeclaa", sum := "37fa8e0002acf9d96e7660311d67192d551d67cc7c144ae23c7c7655447767fd", func := "depot/depotlaw13.SpathParses", spec := "spathParses", inPlace := ["internal/bytealg.IndexByteString", "internal/bytealg.IndexString"], named := ["internal/bytealg.MaxLen"], apart := false }
def SpathParsesSaid : Prop := spathParsesRow.holds Try.pinned (OpenSpec.ofChange spathParsesSpec)

/-- ITS FALSE NEIGHBOUR: 'it returns false'. Refute it at one input. -/
def spathParsesWrong : ChangeSpec := { name := "spathParses", fn := fun _ => fun
  | [d1, d2] => { results := [.lit (.bool false)], args := [d1, d2] }
  | _ => none }
def SpathParsesWrongFalsely : Prop := spathParsesRow.holds Try.pinned (OpenSpec.ofChange spathParsesWrong)

/- THE SECOND FORM. 'bulk': how many values and letters a reading holds, each counted each time it is reached (what is shared counts as often as it is met; a slice's spare places count too). A statement '..UptoSaid' is the law's where the arguments, and the package variables that the reading takes, are together of bulk at most 1048576: NARROWER than '..Said'. Prove '..Said' where nothing that the law and all that it calls make is longer than what came in: it says more and counts as full. Else prove '..UptoSaid'. A law counts once. -/
mutual
def uptoBulk {H : Type} : DataW H → Nat
  | .lit (.string bytes) => bytes.length + 1
  | .lit _ => 1
  | .nil => 1
  | .ptr d => uptoBulk d + 1
  | .slice elems spare => uptoBulkAll elems + uptoBulkAll spare + 1
  | .agg parts => uptoBulkAll parts + 1
  | .iface _ d => uptoBulk d + 1
  | .map entries => uptoBulkEntries entries + 1
  | .held _ => 1
def uptoBulkAll {H : Type} : List (DataW H) → Nat
  | [] => 0
  | d :: r => uptoBulk d + uptoBulkAll r
def uptoBulkEntries {H : Type} : List (Lit × DataW H) → Nat
  | [] => 0
  | x :: r => uptoBulkEntry x + uptoBulkEntries r
def uptoBulkEntry {H : Type} : Lit × DataW H → Nat
  | (.string bytes, d) => bytes.length + uptoBulk d + 1
  | (_, d) => uptoBulk d + 1
 end
def uptoSmall : (H : Type) → List (DataW H) → Bool := fun _ ds => decide (uptoBulkAll ds ≤ 1048576)
def OpenSpec.upto (s : _root_.Go.ChangeSpec) : _root_.Go.OpenSpec := { _root_.Go.OpenSpec.ofChange s with cond := some uptoSmall }

/-- 'depotlaw13.SpathLabels', WHERE WHAT IT READS IS OF BULK AT MOST 1048576: true; the input reads as it did. -/
def spathLabelsUptoRow : OpenClaim := { program := "ytglhbbijoeeclaa", sum := "37fa8e0002acf9d96e7660311d67192d551d67cc7c144ae23c7c7655447767fd", func := "depot/depotlaw13.SpathLabels", spec := "spathLabels", inPlace := ["internal/bytealg.IndexByteString", "internal/bytealg.IndexString"], named := ["internal/bytealg.MaxLen"], apart := false, narrowed := true }
def SpathLabelsUptoSaid : Prop := spathLabelsUptoRow.holds Try.pinned (OpenSpec.upto spathLabelsSpec)

/-- 'depotlaw13.SpathChecks', WHERE WHAT IT READS IS OF BULK AT MOST 1048576: true; the input reads as it did. -/
def spathChecksUptoRow : OpenClaim := { program := "ytglhbbijoeeclaa", sum := "37fa8e0002acf9d96e7660311d67192d551d67cc7c144ae23c7c7655447767fd", func := "depot/depotlaw13.SpathChecks", spec := "spathChecks", inPlace := ["internal/bytealg.IndexByteString", "internal/bytealg.IndexString"], named := ["internal/bytealg.MaxLen"], apart := false, narrowed := true }
def SpathChecksUptoSaid : Prop := spathChecksUptoRow.holds Try.pinned (OpenSpec.upto spathChecksSpec)

/-- 'depotlaw13.SpathParses', WHERE WHAT IT READS IS OF BULK AT MOST 1048576: true; the input reads as it did. -/
def spathParsesUptoRow : OpenClaim := { program := "ytglhbbijoeeclaa", sum := "37fa8e0002acf9d96e7660311d67192d551d67cc7c144ae23c7c7655447767fd", func := "depot/depotlaw13.SpathParses", spec := "spathParses", inPlace := ["internal/bytealg.IndexByteString", "internal/bytealg.IndexString"], named := ["internal/bytealg.MaxLen"], apart := false, narrowed := true }
def SpathParsesUptoSaid : Prop := spathParsesUptoRow.holds Try.pinned (OpenSpec.upto spathParsesSpec)

end Rows
end Go.Proofs.Ytglhbbijoeeclaa
