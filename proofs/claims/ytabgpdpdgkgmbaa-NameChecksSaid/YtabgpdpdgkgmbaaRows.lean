/-
  No cell of these rows narrows 'for every input' (looked for: loops, veiled, ifaces, maps, wideKeys, modest, calm, conditions, laid).
  DERIVED. THE GIVEN ROWS OF THIS SEAT. 5 by the template 'for every input the law returns true; each argument reads behind the call as it read before'; 0 by the template 'total and deterministic' (their statements: YtabgpdpdgkgmbaaTotals.lean).
  GIVEN WITH THE SEED: the statements are not yours to turn. If you find one false, say at which input.
  Laid BY PROGRAM, IN A SANDBOX (cutbox-rows.mjs): the forced cells as the released guide's own fill.sh prints them over the translation 0d6130d4e14168a9… (all of the seat's roots in one cut). By AI agents, Wed Nov 11 2026. No macro, syntax, notation, axiom, sorry.
-/
import Derived.Test.YtabgpdpdgkgmbaaChecked
import GoSem.Claim
import GoSem.ClaimJoined
import GoSem.ClaimMapViews
import Derived.JoinedTies
import Derived.KernelRfl
namespace Go.Proofs.Ytabgpdpdgkgmbaa
/- THE CELL 'sum', in the pinned program and in every row, IS THE sha256 OF THE DUMP (.gsa) THAT YtabgpdpdgkgmbaaProg.lean LOADS. Nothing in Lean hashes anything: it is a label: what it is worth is what the hold of that sum in a sandbox is worth. -/
noncomputable def Try.pinned : Pinned := { name := "ytabgpdpdgkgmbaa", sum := "0d6130d4e14168a90c7795f0a21cc02953918a9d521fe1ef7d1d411279941e2f", checked := Try.checked }
namespace Rows
def none {H : Type} : Left H := { results := [], args := [] }

/-- 'depotlaw05.NameUnders': WHATEVER THE INPUT: true; the input reads as it did. -/
def nameUndersSpec : ChangeSpec := { name := "nameUnders", fn := fun _ => fun
  | [d1, d2] => { results := [.lit (.bool true)], args := [d1, d2] }
  | _ => none }
def nameUndersRow : OpenClaim := { program := "ytabgpdpdgkgmbaa", sum := "0d6130d4e14168a90c7795f0a21cc02953918a9d521fe1ef7d1d411279941e2f", func := "depot/depotlaw05.NameUnders", spec := "nameUnders", apart := false }
def NameUndersSaid : Prop := nameUndersRow.holds Try.pinned (OpenSpec.ofChange nameUndersSpec)

/-- ITS FALSE NEIGHBOUR: 'it returns false'. Refute it at one input. -/
def nameUndersWrong : ChangeSpec := { name := "nameUnders", fn := fun _ => fun
  | [d1, d2] => { results := [.lit (.bool false)], args := [d1, d2] }
  | _ => none }
def NameUndersWrongFalsely : Prop := nameUndersRow.holds Try.pinned (OpenSpec.ofChange nameUndersWrong)

/-- 'depotlaw05.NameRises': WHATEVER THE INPUT: true; the input reads as it did. -/
def nameRisesSpec : ChangeSpec := { name := "nameRises", fn := fun _ => fun
  | [d] => { results := [.lit (.bool true)], args := [d] }
  | _ => none }
def nameRisesRow : OpenClaim := { program := "ytabgpdpdgkgmbaa", sum := "0d6130d4e14168a90c7795f0a21cc02953918a9d521fe1ef7d1d411279941e2f", func := "depot/depotlaw05.NameRises", spec := "nameRises", inPlace := ["internal/bytealg.abigen_runtime_cmpstring"], apart := false }
def NameRisesSaid : Prop := nameRisesRow.holds Try.pinned (OpenSpec.ofChange nameRisesSpec)

/-- ITS FALSE NEIGHBOUR: 'it returns false'. Refute it at one input. -/
def nameRisesWrong : ChangeSpec := { name := "nameRises", fn := fun _ => fun
  | [d] => { results := [.lit (.bool false)], args := [d] }
  | _ => none }
def NameRisesWrongFalsely : Prop := nameRisesRow.holds Try.pinned (OpenSpec.ofChange nameRisesWrong)

/-- 'depotlaw05.NameMatches': WHATEVER THE INPUT: true; the input reads as it did. -/
def nameMatchesSpec : ChangeSpec := { name := "nameMatches", fn := fun _ => fun
  | [d1, d2] => { results := [.lit (.bool true)], args := [d1, d2] }
  | _ => none }
def nameMatchesRow : OpenClaim := { program := "ytabgpdpdgkgmbaa", sum := "0d6130d4e14168a90c7795f0a21cc02953918a9d521fe1ef7d1d411279941e2f", func := "depot/depotlaw05.NameMatches", spec := "nameMatches", apart := false }
def NameMatchesSaid : Prop := nameMatchesRow.holds Try.pinned (OpenSpec.ofChange nameMatchesSpec)

/-- ITS FALSE NEIGHBOUR: 'it returns false'. Refute it at one input. -/
def nameMatchesWrong : ChangeSpec := { name := "nameMatches", fn := fun _ => fun
  | [d1, d2] => { results := [.lit (.bool false)], args := [d1, d2] }
  | _ => none }
def NameMatchesWrongFalsely : Prop := nameMatchesRow.holds Try.pinned (OpenSpec.ofChange nameMatchesWrong)

/-- 'depotlaw05.NameStars': WHATEVER THE INPUT: true; the input reads as it did. -/
def nameStarsSpec : ChangeSpec := { name := "nameStars", fn := fun _ => fun
  | [d1, d2] => { results := [.lit (.bool true)], args := [d1, d2] }
  | _ => none }
def nameStarsRow : OpenClaim := { program := "ytabgpdpdgkgmbaa", sum := "0d6130d4e14168a90c7795f0a21cc02953918a9d521fe1ef7d1d411279941e2f", func := "depot/depotlaw05.NameStars", spec := "nameStars", apart := false }
def NameStarsSaid : Prop := nameStarsRow.holds Try.pinned (OpenSpec.ofChange nameStarsSpec)

/-- ITS FALSE NEIGHBOUR: 'it returns false'. Refute it at one input. -/
def nameStarsWrong : ChangeSpec := { name := "nameStars", fn := fun _ => fun
  | [d1, d2] => { results := [.lit (.bool false)], args := [d1, d2] }
  | _ => none }
def NameStarsWrongFalsely : Prop := nameStarsRow.holds Try.pinned (OpenSpec.ofChange nameStarsWrong)

/-- 'depotlaw05.NameChecks': WHATEVER THE INPUT: true; the input reads as it did. -/
def nameChecksSpec : ChangeSpec := { name := "nameChecks", fn := fun _ => fun
  | [d1, d2] => { results := [.lit (.bool true)], args := [d1, d2] }
  | _ => none }
def nameChecksRow : OpenClaim := { program := "ytabgpdpdgkgmbaa", sum := "0d6130d4e14168a90c7795f0a21cc02953918a9d521fe1ef7d1d411279941e2f", func := "depot/depotlaw05.NameChecks", spec := "nameChecks", inPlace := ["internal/bytealg.IndexByteString", "internal/bytealg.IndexString", "internal/bytealg.abigen_runtime_cmpstring"], named := ["internal/bytealg.MaxLen"], apart := false }
def NameChecksSaid : Prop := nameChecksRow.holds Try.pinned (OpenSpec.ofChange nameChecksSpec)

/-- ITS FALSE NEIGHBOUR: 'it returns false'. Refute it at one input. -/
def nameChecksWrong : ChangeSpec := { name := "nameChecks", fn := fun _ => fun
  | [d1, d2] => { results := [.lit (.bool false)], args := [d1, d2] }
  | _ => none }
def NameChecksWrongFalsely : Prop := nameChecksRow.holds Try.pinned (OpenSpec.ofChange nameChecksWrong)

/- THE SECOND FORM. 'bulk': how many values and letters a reading holds, each counted each time it is reached (what is shared counts as often as it is met; a slice's spare places count too). A statement '..UptoSaid' is the law's where the arguments, and the package variables that the reading takes, are together of bulk at most 1048576: NARROWER than '..Said'. Prove '..Said' where nothing that the law and all that it calls make is longer than what came in: it says more and counts as full. Else prove '..UptoSaid'. A law counts once. -/
mutual
def uptoBulk {H : Type} : DataW H → Nat
  | .lit (.string bytes) => bytes.length + 1
  | .lit _ => 1
  | .nil => 1
  | .ptr d => uptoBulk d + 1
  | .slice elems spare => uptoBulkAll elems + uptoBulkAll spare + 1
  | .agg parts => uptoBulkAll parts + 1
  | .iface _ d => uptoBulk d + 1
  | .map entries => uptoBulkEntries entries + 1
  | .held _ => 1
def uptoBulkAll {H : Type} : List (DataW H) → Nat
  | [] => 0
  | d :: r => uptoBulk d + uptoBulkAll r
def uptoBulkEntries {H : Type} : List (Lit × DataW H) → Nat
  | [] => 0
  | x :: r => uptoBulkEntry x + uptoBulkEntries r
def uptoBulkEntry {H : Type} : Lit × DataW H → Nat
  | (.string bytes, d) => bytes.length + uptoBulk d + 1
  | (_, d) => uptoBulk d + 1
 end
def uptoSmall : (H : Type) → List (DataW H) → Bool := fun _ ds => decide (uptoBulkAll ds ≤ 1048576)
def OpenSpec.upto (s : _root_.Go.ChangeSpec) : _root_.Go.OpenSpec := { _root_.Go.OpenSpec.ofChange s with cond := some uptoSmall }

/-- 'depotlaw05.NameUnders', WHERE WHAT IT READS IS OF BULK AT MOST 1048576: true; the input reads as it did. -/
def nameUndersUptoRow : OpenClaim := { program := "ytabgpdpdgkgmbaa", sum := "0d6130d4e14168a90c7795f0a21cc02953918a9d521fe1ef7d1d411279941e2f", func := "depot/depotlaw05.NameUnders", spec := "nameUnders", apart := false, narrowed := true }
def NameUndersUptoSaid : Prop := nameUndersUptoRow.holds Try.pinned (OpenSpec.upto nameUndersSpec)

/-- 'depotlaw05.NameRises', WHERE WHAT IT READS IS OF BULK AT MOST 1048576: true; the input reads as it did. -/
def nameRisesUptoRow : OpenClaim := { program := "ytabgpdpdgkgmbaa", sum := "0d6130d4e14168a90c7795f0a21cc02953918a9d521fe1ef7d1d411279941e2f", func := "depot/depotlaw05.NameRises", spec := "nameRises", inPlace := ["internal/bytealg.abigen_runtime_cmpstring"], apart := false, narrowed := true }
def NameRisesUptoSaid : Prop := nameRisesUptoRow.holds Try.pinned (OpenSpec.upto nameRisesSpec)

/-- 'depotlaw05.NameMatches', WHERE WHAT IT READS IS OF BULK AT MOST 1048576: true; the input reads as it did. -/
def nameMatchesUptoRow : OpenClaim := { program := "ytabgpdpdgkgmbaa", sum := "0d6130d4e14168a90c7795f0a21cc02953918a9d521fe1ef7d1d411279941e2f", func := "depot/depotlaw05.NameMatches", spec := "nameMatches", apart := false, narrowed := true }
def NameMatchesUptoSaid : Prop := nameMatchesUptoRow.holds Try.pinned (OpenSpec.upto nameMatchesSpec)

/-- 'depotlaw05.NameStars', WHERE WHAT IT READS IS OF BULK AT MOST 1048576: true; the input reads as it did. -/
def nameStarsUptoRow : OpenClaim := { program := "ytabgpdpdgkgmbaa", sum := "0d6130d4e14168a90c7795f0a21cc02953918a9d521fe1ef7d1d411279941e2f", func := "depot/depotlaw05.NameStars", spec := "nameStars", apart := false, narrowed := true }
def NameStarsUptoSaid : Prop := nameStarsUptoRow.holds Try.pinned (OpenSpec.upto nameStarsSpec)

/-- 'depotlaw05.NameChecks', WHERE WHAT IT READS IS OF BULK AT MOST 1048576: true; the input reads as it did. -/
def nameChecksUptoRow : OpenClaim := { program := "ytabgpdpdgkgmbaa", sum := "0d6130d4e14168a90c7795f0a21cc02953918a9d521fe1ef7d1d411279941e2f", func := "depot/depotlaw05.NameChecks", spec := "nameChecks", inPlace := ["internal/bytealg.IndexByteString", "internal/bytealg.IndexString", "internal/bytealg.abigen_runtime_cmpstring"], named := ["internal/bytealg.MaxLen"], apart := false, narrowed := true }
def NameChecksUptoSaid : Prop := nameChecksUptoRow.holds Try.pinned (OpenSpec.upto nameChecksSpec)

end Rows
end Go.Proofs.Ytabgpdpdgkgmbaa
