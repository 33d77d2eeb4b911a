/-
  No cell of these rows narrows 'for every input' (looked for: loops, veiled, ifaces, maps, wideKeys, modest, calm, conditions, laid).
  DERIVED. THE GIVEN ROWS OF THIS SEAT. 6 by the template 'for every input the law returns true; each argument reads behind the call as it read before'; 0 by the template 'total and deterministic' (their statements: YtbllmpfdhcbkpaaTotals.lean).
  GIVEN WITH THE SEED: the statements are not yours to turn. If you find one false, say at which input.
  Laid BY PROGRAM, IN A SANDBOX (cutbox-rows.mjs): the forced cells as the released guide's own fill.sh prints them over the translation f6b98fb844b673d7… (all of the seat's roots in one cut). By AI agents, Wed Nov 11 2026. No macro, syntax, notation, axiom, sorry.
-/
import Derived.Test.YtbllmpfdhcbkpaaChecked
import GoSem.Claim
import GoSem.ClaimJoined
import GoSem.ClaimMapViews
import Derived.JoinedTies
import Derived.KernelRfl
namespace Go.Proofs.Ytbllmpfdhcbkpaa
/- THE CELL 'sum', in the pinned program and in every row, IS THE sha256 OF THE DUMP (.gsa) THAT YtbllmpfdhcbkpaaProg.lean LOADS. Nothing in Lean hashes anything: it is a label: what it is worth is what the hold of that sum in a sandbox is worth. -/
noncomputable def Try.pinned : Pinned := { name := "ytbllmpfdhcbkpaa", sum := "f6b98fb844b673d727b6a3ca97432d0d5d0386c2b5af9a9be3d6f02ef37f674c", checked := Try.checked }
namespace Rows
def none {H : Type} : Left H := { results := [], args := [] }

/-- 'depotlaw14.ScanRewrites': WHATEVER THE INPUT: true; the input reads as it did. -/
def scanRewritesSpec : ChangeSpec := { name := "scanRewrites", fn := fun _ => fun
  | [d1, d2, d3] => { results := [.lit (.bool true)], args := [d1, d2, d3] }
  | _ => none }
def scanRewritesRow : OpenClaim := { program := "ytbllmpfdhcbkpaa", sum := "f6b98fb844b673d727b6a3ca97432d0d5d0386c2b5af9a9be3d6f02ef37f674c", func := "depot/depotlaw14.ScanRewrites", spec := "scanRewrites", inPlace := ["internal/bytealg.IndexByteString", "internal/bytealg.IndexString", "internal/abi.NoEscape"], recurses := true, named := ["internal/bytealg.MaxLen"], apart := false }
def ScanRewritesSaid : Prop := scanRewritesRow.holds Try.pinned (OpenSpec.ofChange scanRewritesSpec)

/-- ITS FALSE NEIGHBOUR: 'it returns false'. Refute it at one input. -/
def scanRewritesWrong : ChangeSpec := { name := "scanRewrites", fn := fun _ => fun
  | [d1, d2, d3] => { results := [.lit (.bool false)], args := [d1, d2, d3] }
  | _ => none }
def ScanRewritesWrongFalsely : Prop := scanRewritesRow.holds Try.pinned (OpenSpec.ofChange scanRewritesWrong)

/-- 'depotlaw14.ScanPlanted': WHATEVER THE INPUT: true; the input reads as it did. -/
def scanPlantedSpec : ChangeSpec := { name := "scanPlanted", fn := fun _ => fun
  | [d1, d2, d3] => { results := [.lit (.bool true)], args := [d1, d2, d3] }
  | _ => none }
def scanPlantedRow : OpenClaim := { program := "ytbllmpfdhcbkpaa", sum := "f6b98fb844b673d727b6a3ca97432d0d5d0386c2b5af9a9be3d6f02ef37f674c", func := "depot/depotlaw14.ScanPlanted", spec := "scanPlanted", inPlace := ["internal/bytealg.IndexByteString", "internal/bytealg.IndexString", "internal/abi.NoEscape"], recurses := true, named := ["internal/bytealg.MaxLen"], apart := false }
def ScanPlantedSaid : Prop := scanPlantedRow.holds Try.pinned (OpenSpec.ofChange scanPlantedSpec)

/-- ITS FALSE NEIGHBOUR: 'it returns false'. Refute it at one input. -/
def scanPlantedWrong : ChangeSpec := { name := "scanPlanted", fn := fun _ => fun
  | [d1, d2, d3] => { results := [.lit (.bool false)], args := [d1, d2, d3] }
  | _ => none }
def ScanPlantedWrongFalsely : Prop := scanPlantedRow.holds Try.pinned (OpenSpec.ofChange scanPlantedWrong)

/-- 'depotlaw14.ScanSwaps': WHATEVER THE INPUT: true; the input reads as it did. -/
def scanSwapsSpec : ChangeSpec := { name := "scanSwaps", fn := fun _ => fun
  | [d1, d2, d3] => { results := [.lit (.bool true)], args := [d1, d2, d3] }
  | _ => none }
def scanSwapsRow : OpenClaim := { program := "ytbllmpfdhcbkpaa", sum := "f6b98fb844b673d727b6a3ca97432d0d5d0386c2b5af9a9be3d6f02ef37f674c", func := "depot/depotlaw14.ScanSwaps", spec := "scanSwaps", inPlace := ["internal/bytealg.IndexByteString", "internal/bytealg.IndexString", "internal/abi.NoEscape"], recurses := true, named := ["internal/bytealg.MaxLen"], apart := false }
def ScanSwapsSaid : Prop := scanSwapsRow.holds Try.pinned (OpenSpec.ofChange scanSwapsSpec)

/-- ITS FALSE NEIGHBOUR: 'it returns false'. Refute it at one input. -/
def scanSwapsWrong : ChangeSpec := { name := "scanSwaps", fn := fun _ => fun
  | [d1, d2, d3] => { results := [.lit (.bool false)], args := [d1, d2, d3] }
  | _ => none }
def ScanSwapsWrongFalsely : Prop := scanSwapsRow.holds Try.pinned (OpenSpec.ofChange scanSwapsWrong)

/-- 'depotlaw14.ScanKeeps': WHATEVER THE INPUT: true; the input reads as it did. -/
def scanKeepsSpec : ChangeSpec := { name := "scanKeeps", fn := fun _ => fun
  | [d1, d2] => { results := [.lit (.bool true)], args := [d1, d2] }
  | _ => none }
def scanKeepsRow : OpenClaim := { program := "ytbllmpfdhcbkpaa", sum := "f6b98fb844b673d727b6a3ca97432d0d5d0386c2b5af9a9be3d6f02ef37f674c", func := "depot/depotlaw14.ScanKeeps", spec := "scanKeeps", inPlace := ["internal/bytealg.IndexByteString", "internal/bytealg.IndexString", "internal/abi.NoEscape"], recurses := true, named := ["internal/bytealg.MaxLen"], apart := false }
def ScanKeepsSaid : Prop := scanKeepsRow.holds Try.pinned (OpenSpec.ofChange scanKeepsSpec)

/-- ITS FALSE NEIGHBOUR: 'it returns false'. Refute it at one input. -/
def scanKeepsWrong : ChangeSpec := { name := "scanKeeps", fn := fun _ => fun
  | [d1, d2] => { results := [.lit (.bool false)], args := [d1, d2] }
  | _ => none }
def ScanKeepsWrongFalsely : Prop := scanKeepsRow.holds Try.pinned (OpenSpec.ofChange scanKeepsWrong)

/-- 'depotlaw14.ScanPlays': WHATEVER THE INPUT: true; the input reads as it did. -/
def scanPlaysSpec : ChangeSpec := { name := "scanPlays", fn := fun _ => fun
  | [d1, d2] => { results := [.lit (.bool true)], args := [d1, d2] }
  | _ => none }
def scanPlaysRow : OpenClaim := { program := "ytbllmpfdhcbkpaa", sum := "f6b98fb844b673d727b6a3ca97432d0d5d0386c2b5af9a9be3d6f02ef37f674c", func := "depot/depotlaw14.ScanPlays", spec := "scanPlays", inPlace := ["internal/bytealg.IndexByteString", "internal/bytealg.IndexString", "internal/abi.NoEscape"], recurses := true, named := ["internal/bytealg.MaxLen"], apart := false }
def ScanPlaysSaid : Prop := scanPlaysRow.holds Try.pinned (OpenSpec.ofChange scanPlaysSpec)

/-- ITS FALSE NEIGHBOUR: 'it returns false'. Refute it at one input. -/
def scanPlaysWrong : ChangeSpec := { name := "scanPlays", fn := fun _ => fun
  | [d1, d2] => { results := [.lit (.bool false)], args := [d1, d2] }
  | _ => none }
def ScanPlaysWrongFalsely : Prop := scanPlaysRow.holds Try.pinned (OpenSpec.ofChange scanPlaysWrong)

/-- 'depotlaw14.ScanStreams': WHATEVER THE INPUT: true; the input reads as it did. -/
def scanStreamsSpec : ChangeSpec := { name := "scanStreams", fn := fun _ => fun
  | [d1, d2, d3] => { results := [.lit (.bool true)], args := [d1, d2, d3] }
  | _ => none }
def scanStreamsRow : OpenClaim := { program := "ytbllmpfdhcbkpaa", sum := "f6b98fb844b673d727b6a3ca97432d0d5d0386c2b5af9a9be3d6f02ef37f674c", func := "depot/depotlaw14.ScanStreams", spec := "scanStreams", inPlace := ["internal/bytealg.IndexByteString", "internal/bytealg.IndexString", "internal/abi.NoEscape"], recurses := true, named := ["internal/bytealg.MaxLen"], apart := false }
def ScanStreamsSaid : Prop := scanStreamsRow.holds Try.pinned (OpenSpec.ofChange scanStreamsSpec)

/-- ITS FALSE NEIGHBOUR: 'it returns false'. Refute it at one input. -/
def scanStreamsWrong : ChangeSpec := { name := "scanStreams", fn := fun _ => fun
  | [d1, d2, d3] => { results := [.lit (.bool false)], args := [d1, d2, d3] }
  | _ => none }
def ScanStreamsWrongFalsely : Prop := scanStreamsRow.holds Try.pinned (OpenSpec.ofChange scanStreamsWrong)

/- THE SECOND FORM. 'bulk': how many values and letters a reading holds, each counted each time it is reached (what is shared counts as often as it is met; a slice's spare places count too). A statement '..UptoSaid' is the law's where the arguments, and the package variables that the reading takes, are together of bulk at most 1048576: NARROWER than '..Said'. Prove '..Said' where nothing that the law and all that it calls make is longer than what came in: it says more and counts as full. Else prove '..UptoSaid'. A law counts once. -/
mutual
def uptoBulk {H : Type} : DataW H → Nat
  | .lit (.string bytes) => bytes.length + 1
  | .lit _ => 1
  | .nil => 1
  | .ptr d => uptoBulk d + 1
  | .slice elems spare => uptoBulkAll elems + uptoBulkAll spare + 1
  | .agg parts => uptoBulkAll parts + 1
  | .iface _ d => uptoBulk d + 1
  | .map entries => uptoBulkEntries entries + 1
  | .held _ => 1
def uptoBulkAll {H : Type} : List (DataW H) → Nat
  | [] => 0
  | d :: r => uptoBulk d + uptoBulkAll r
def uptoBulkEntries {H : Type} : List (Lit × DataW H) → Nat
  | [] => 0
  | x :: r => uptoBulkEntry x + uptoBulkEntries r
def uptoBulkEntry {H : Type} : Lit × DataW H → Nat
  | (.string bytes, d) => bytes.length + uptoBulk d + 1
  | (_, d) => uptoBulk d + 1
 end
def uptoSmall : (H : Type) → List (DataW H) → Bool := fun _ ds => decide (uptoBulkAll ds ≤ 1048576)
def OpenSpec.upto (s : _root_.Go.ChangeSpec) : _root_.Go.OpenSpec := { _root_.Go.OpenSpec.ofChange s with cond := some uptoSmall }

/-- 'depotlaw14.ScanRewrites', WHERE WHAT IT READS IS OF BULK AT MOST 1048576: true; the input reads as it did. -/
def scanRewritesUptoRow : OpenClaim := { program := "ytbllmpfdhcbkpaa", sum := "f6b98fb844b673d727b6a3ca97432d0d5d0386c2b5af9a9be3d6f02ef37f674c", func := "depot/depotlaw14.ScanRewrites", spec := "scanRewrites", inPlace := ["internal/bytealg.IndexByteString", "internal/bytealg.IndexString", "internal/abi.NoEscape"], recurses := true, named := ["internal/bytealg.MaxLen"], apart := false, narrowed := true }
def ScanRewritesUptoSaid : Prop := scanRewritesUptoRow.holds Try.pinned (OpenSpec.upto scanRewritesSpec)

/-- 'depotlaw14.ScanPlanted', WHERE WHAT IT READS IS OF BULK AT MOST 1048576: true; the input reads as it did. -/
def scanPlantedUptoRow : OpenClaim := { program := "ytbllmpfdhcbkpaa", sum := "f6b98fb844b673d727b6a3ca97432d0d5d0386c2b5af9a9be3d6f02ef37f674c", func := "depot/depotlaw14.ScanPlanted", spec := "scanPlanted", inPlace := ["internal/bytealg.IndexByteString", "internal/bytealg.IndexString", "internal/abi.NoEscape"], recurses := true, named := ["internal/bytealg.MaxLen"], apart := false, narrowed := true }
def ScanPlantedUptoSaid : Prop := scanPlantedUptoRow.holds Try.pinned (OpenSpec.upto scanPlantedSpec)

/-- 'depotlaw14.ScanSwaps', WHERE WHAT IT READS IS OF BULK AT MOST 1048576: true; the input reads as it did. -/
def scanSwapsUptoRow : OpenClaim := { program := "ytbllmpfdhcbkpaa", sum := "f6b98fb844b673d727b6a3ca97432d0d5d0386c2b5af9a9be3d6f02ef37f674c", func := "depot/depotlaw14.ScanSwaps", spec := "scanSwaps", inPlace := ["internal/bytealg.IndexByteString", "internal/bytealg.IndexString", "internal/abi.NoEscape"], recurses := true, named := ["internal/bytealg.MaxLen"], apart := false, narrowed := true }
def ScanSwapsUptoSaid : Prop := scanSwapsUptoRow.holds Try.pinned (OpenSpec.upto scanSwapsSpec)

/-- 'depotlaw14.ScanKeeps', WHERE WHAT IT READS IS OF BULK AT MOST 1048576: true; the input reads as it did. -/
def scanKeepsUptoRow : OpenClaim := { program := "ytbllmpfdhcbkpaa", sum := "f6b98fb844b673d727b6a3ca97432d0d5d0386c2b5af9a9be3d6f02ef37f674c", func := "depot/depotlaw14.ScanKeeps", spec := "scanKeeps", inPlace := ["internal/bytealg.IndexByteString", "internal/bytealg.IndexString", "internal/abi.NoEscape"], recurses := true, named := ["internal/bytealg.MaxLen"], apart := false, narrowed := true }
def ScanKeepsUptoSaid : Prop := scanKeepsUptoRow.holds Try.pinned (OpenSpec.upto scanKeepsSpec)

/-- 'depotlaw14.ScanPlays', WHERE WHAT IT READS IS OF BULK AT MOST 1048576: true; the input reads as it did. -/
def scanPlaysUptoRow : OpenClaim := { program := "ytbllmpfdhcbkpaa", sum := "f6b98fb844b673d727b6a3ca97432d0d5d0386c2b5af9a9be3d6f02ef37f674c", func := "depot/depotlaw14.ScanPlays", spec := "scanPlays", inPlace := ["internal/bytealg.IndexByteString", "internal/bytealg.IndexString", "internal/abi.NoEscape"], recurses := true, named := ["internal/bytealg.MaxLen"], apart := false, narrowed := true }
def ScanPlaysUptoSaid : Prop := scanPlaysUptoRow.holds Try.pinned (OpenSpec.upto scanPlaysSpec)

/-- 'depotlaw14.ScanStreams', WHERE WHAT IT READS IS OF BULK AT MOST 1048576: true; the input reads as it did. -/
def scanStreamsUptoRow : OpenClaim := { program := "ytbllmpfdhcbkpaa", sum := "f6b98fb844b673d727b6a3ca97432d0d5d0386c2b5af9a9be3d6f02ef37f674c", func := "depot/depotlaw14.ScanStreams", spec := "scanStreams", inPlace := ["internal/bytealg.IndexByteString", "internal/bytealg.IndexString", "internal/abi.NoEscape"], recurses := true, named := ["internal/bytealg.MaxLen"], apart := false, narrowed := true }
def ScanStreamsUptoSaid : Prop := scanStreamsUptoRow.holds Try.pinned (OpenSpec.upto scanStreamsSpec)

end Rows
end Go.Proofs.Ytbllmpfdhcbkpaa
