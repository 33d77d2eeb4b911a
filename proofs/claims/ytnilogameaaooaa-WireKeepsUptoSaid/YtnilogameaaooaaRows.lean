/-
  No cell of these rows narrows 'for every input' (looked for: loops, veiled, ifaces, maps, wideKeys, modest, calm, conditions, laid).
  DERIVED. THE GIVEN ROWS OF THIS SEAT. 9 by the template 'for every input the law returns true; each argument reads behind the call as it read before'; 0 by the template 'total and deterministic' (their statements: YtnilogameaaooaaTotals.lean).
  GIVEN WITH THE SEED: the statements are not yours to turn. If you find one false, say at which input.
  Laid BY PROGRAM, IN A SANDBOX (cutbox-rows.mjs): the forced cells as the released guide's own fill.sh prints them over the translation 3378a51820030232… (all of the seat's roots in one cut). By AI agents, Wed Nov 11 2026. No macro, syntax, notation, axiom, sorry.
-/
import Derived.Test.YtnilogameaaooaaChecked
import GoSem.Claim
import GoSem.ClaimJoined
import GoSem.ClaimMapViews
import Derived.JoinedTies
import Derived.KernelRfl
namespace Go.Proofs.Ytnilogameaaooaa
/- THE CELL 'sum', in the pinned program and in every row, IS THE sha256 OF THE DUMP (.gsa) THAT YtnilogameaaooaaProg.lean LOADS. Nothing in Lean hashes anything: it is a label: what it is worth is what the hold of that sum in a sandbox is worth. -/
noncomputable def Try.pinned : Pinned := { name := "ytnilogameaaooaa", sum := "3378a51820030232b22b200cbe98207b549007390ccff3ab6bc557a91f22d3a0", checked := Try.checked }
namespace Rows
def none {H : Type} : Left H := { results := [], args := [] }

/-- 'depotlaw03.WireWrites': WHATEVER THE INPUT: true; the input reads as it did. -/
def wireWritesSpec : ChangeSpec := { name := "wireWrites", fn := fun _ => fun
  | [d1, d2, d3] => { results := [.lit (.bool true)], args := [d1, d2, d3] }
  | _ => none }
def wireWritesRow : OpenClaim := { program := "ytnilogameaaooaa", sum := "3378a51820030232b22b200cbe98207b549007390ccff3ab6bc557a91f22d3a0", func := "depot/depotlaw03.WireWrites", spec := "wireWrites", inPlace := ["internal/abi.NoEscape", "internal/bytealg.MakeNoZero"], apart := false }
def WireWritesSaid : Prop := wireWritesRow.holds Try.pinned (OpenSpec.ofChange wireWritesSpec)

/-- ITS FALSE NEIGHBOUR: 'it returns false'. Refute it at one input. -/
def wireWritesWrong : ChangeSpec := { name := "wireWrites", fn := fun _ => fun
  | [d1, d2, d3] => { results := [.lit (.bool false)], args := [d1, d2, d3] }
  | _ => none }
def WireWritesWrongFalsely : Prop := wireWritesRow.holds Try.pinned (OpenSpec.ofChange wireWritesWrong)

/-- 'depotlaw03.WireSplits': WHATEVER THE INPUT: true; the input reads as it did. -/
def wireSplitsSpec : ChangeSpec := { name := "wireSplits", fn := fun _ => fun
  | [d1, d2, d3] => { results := [.lit (.bool true)], args := [d1, d2, d3] }
  | _ => none }
def wireSplitsRow : OpenClaim := { program := "ytnilogameaaooaa", sum := "3378a51820030232b22b200cbe98207b549007390ccff3ab6bc557a91f22d3a0", func := "depot/depotlaw03.WireSplits", spec := "wireSplits", inPlace := ["internal/abi.NoEscape", "internal/bytealg.MakeNoZero"], apart := false }
def WireSplitsSaid : Prop := wireSplitsRow.holds Try.pinned (OpenSpec.ofChange wireSplitsSpec)

/-- ITS FALSE NEIGHBOUR: 'it returns false'. Refute it at one input. -/
def wireSplitsWrong : ChangeSpec := { name := "wireSplits", fn := fun _ => fun
  | [d1, d2, d3] => { results := [.lit (.bool false)], args := [d1, d2, d3] }
  | _ => none }
def WireSplitsWrongFalsely : Prop := wireSplitsRow.holds Try.pinned (OpenSpec.ofChange wireSplitsWrong)

/-- 'depotlaw03.WireBack': WHATEVER THE INPUT: true; the input reads as it did. -/
def wireBackSpec : ChangeSpec := { name := "wireBack", fn := fun _ => fun
  | [d] => { results := [.lit (.bool true)], args := [d] }
  | _ => none }
def wireBackRow : OpenClaim := { program := "ytnilogameaaooaa", sum := "3378a51820030232b22b200cbe98207b549007390ccff3ab6bc557a91f22d3a0", func := "depot/depotlaw03.WireBack", spec := "wireBack", inPlace := ["internal/abi.NoEscape", "internal/bytealg.MakeNoZero"], apart := false }
def WireBackSaid : Prop := wireBackRow.holds Try.pinned (OpenSpec.ofChange wireBackSpec)

/-- ITS FALSE NEIGHBOUR: 'it returns false'. Refute it at one input. -/
def wireBackWrong : ChangeSpec := { name := "wireBack", fn := fun _ => fun
  | [d] => { results := [.lit (.bool false)], args := [d] }
  | _ => none }
def WireBackWrongFalsely : Prop := wireBackRow.holds Try.pinned (OpenSpec.ofChange wireBackWrong)

/-- 'depotlaw03.WireOne': WHATEVER THE INPUT: true; the input reads as it did. -/
def wireOneSpec : ChangeSpec := { name := "wireOne", fn := fun _ => fun
  | [d1, d2, d3] => { results := [.lit (.bool true)], args := [d1, d2, d3] }
  | _ => none }
def wireOneRow : OpenClaim := { program := "ytnilogameaaooaa", sum := "3378a51820030232b22b200cbe98207b549007390ccff3ab6bc557a91f22d3a0", func := "depot/depotlaw03.WireOne", spec := "wireOne", inPlace := ["internal/abi.NoEscape", "internal/bytealg.MakeNoZero"], apart := false }
def WireOneSaid : Prop := wireOneRow.holds Try.pinned (OpenSpec.ofChange wireOneSpec)

/-- ITS FALSE NEIGHBOUR: 'it returns false'. Refute it at one input. -/
def wireOneWrong : ChangeSpec := { name := "wireOne", fn := fun _ => fun
  | [d1, d2, d3] => { results := [.lit (.bool false)], args := [d1, d2, d3] }
  | _ => none }
def WireOneWrongFalsely : Prop := wireOneRow.holds Try.pinned (OpenSpec.ofChange wireOneWrong)

/-- 'depotlaw03.WireShort': WHATEVER THE INPUT: true; the input reads as it did. -/
def wireShortSpec : ChangeSpec := { name := "wireShort", fn := fun _ => fun
  | [d1, d2, d3] => { results := [.lit (.bool true)], args := [d1, d2, d3] }
  | _ => none }
def wireShortRow : OpenClaim := { program := "ytnilogameaaooaa", sum := "3378a51820030232b22b200cbe98207b549007390ccff3ab6bc557a91f22d3a0", func := "depot/depotlaw03.WireShort", spec := "wireShort", inPlace := ["internal/abi.NoEscape", "internal/bytealg.MakeNoZero"], apart := false }
def WireShortSaid : Prop := wireShortRow.holds Try.pinned (OpenSpec.ofChange wireShortSpec)

/-- ITS FALSE NEIGHBOUR: 'it returns false'. Refute it at one input. -/
def wireShortWrong : ChangeSpec := { name := "wireShort", fn := fun _ => fun
  | [d1, d2, d3] => { results := [.lit (.bool false)], args := [d1, d2, d3] }
  | _ => none }
def WireShortWrongFalsely : Prop := wireShortRow.holds Try.pinned (OpenSpec.ofChange wireShortWrong)

/-- 'depotlaw03.WirePads': WHATEVER THE INPUT: true; the input reads as it did. -/
def wirePadsSpec : ChangeSpec := { name := "wirePads", fn := fun _ => fun
  | [d1, d2, d3] => { results := [.lit (.bool true)], args := [d1, d2, d3] }
  | _ => none }
def wirePadsRow : OpenClaim := { program := "ytnilogameaaooaa", sum := "3378a51820030232b22b200cbe98207b549007390ccff3ab6bc557a91f22d3a0", func := "depot/depotlaw03.WirePads", spec := "wirePads", inPlace := ["internal/abi.NoEscape", "internal/bytealg.MakeNoZero"], apart := false }
def WirePadsSaid : Prop := wirePadsRow.holds Try.pinned (OpenSpec.ofChange wirePadsSpec)

/-- ITS FALSE NEIGHBOUR: 'it returns false'. Refute it at one input. -/
def wirePadsWrong : ChangeSpec := { name := "wirePads", fn := fun _ => fun
  | [d1, d2, d3] => { results := [.lit (.bool false)], args := [d1, d2, d3] }
  | _ => none }
def WirePadsWrongFalsely : Prop := wirePadsRow.holds Try.pinned (OpenSpec.ofChange wirePadsWrong)

/-- 'depotlaw03.WireKeeps': WHATEVER THE INPUT: true; the input reads as it did. -/
def wireKeepsSpec : ChangeSpec := { name := "wireKeeps", fn := fun _ => fun
  | [d1, d2] => { results := [.lit (.bool true)], args := [d1, d2] }
  | _ => none }
def wireKeepsRow : OpenClaim := { program := "ytnilogameaaooaa", sum := "3378a51820030232b22b200cbe98207b549007390ccff3ab6bc557a91f22d3a0", func := "depot/depotlaw03.WireKeeps", spec := "wireKeeps", inPlace := ["internal/abi.NoEscape", "internal/bytealg.MakeNoZero"], apart := false }
def WireKeepsSaid : Prop := wireKeepsRow.holds Try.pinned (OpenSpec.ofChange wireKeepsSpec)

/-- ITS FALSE NEIGHBOUR: 'it returns false'. Refute it at one input. -/
def wireKeepsWrong : ChangeSpec := { name := "wireKeeps", fn := fun _ => fun
  | [d1, d2] => { results := [.lit (.bool false)], args := [d1, d2] }
  | _ => none }
def WireKeepsWrongFalsely : Prop := wireKeepsRow.holds Try.pinned (OpenSpec.ofChange wireKeepsWrong)

/-- 'depotlaw03.WireChunks': WHATEVER THE INPUT: true; the input reads as it did. -/
def wireChunksSpec : ChangeSpec := { name := "wireChunks", fn := fun _ => fun
  | [d] => { results := [.lit (.bool true)], args := [d] }
  | _ => none }
def wireChunksRow : OpenClaim := { program := "ytnilogameaaooaa", sum := "3378a51820030232b22b200cbe98207b549007390ccff3ab6bc557a91f22d3a0", func := "depot/depotlaw03.WireChunks", spec := "wireChunks", inPlace := ["internal/abi.NoEscape", "internal/bytealg.MakeNoZero"], apart := false }
def WireChunksSaid : Prop := wireChunksRow.holds Try.pinned (OpenSpec.ofChange wireChunksSpec)

/-- ITS FALSE NEIGHBOUR: 'it returns false'. Refute it at one input. -/
def wireChunksWrong : ChangeSpec := { name := "wireChunks", fn := fun _ => fun
  | [d] => { results := [.lit (.bool false)], args := [d] }
  | _ => none }
def WireChunksWrongFalsely : Prop := wireChunksRow.holds Try.pinned (OpenSpec.ofChange wireChunksWrong)

/-- 'depotlaw03.WirePlays': WHATEVER THE INPUT: true; the input reads as it did. -/
def wirePlaysSpec : ChangeSpec := { name := "wirePlays", fn := fun _ => fun
  | [d1, d2, d3] => { results := [.lit (.bool true)], args := [d1, d2, d3] }
  | _ => none }
def wirePlaysRow : OpenClaim := { program := "ytnilogameaaooaa", sum := "3378a51820030232b22b200cbe98207b549007390ccff3ab6bc557a91f22d3a0", func := "depot/depotlaw03.WirePlays", spec := "wirePlays", inPlace := ["internal/abi.NoEscape", "internal/bytealg.MakeNoZero"], apart := false }
def WirePlaysSaid : Prop := wirePlaysRow.holds Try.pinned (OpenSpec.ofChange wirePlaysSpec)

/-- ITS FALSE NEIGHBOUR: 'it returns false'. Refute it at one input. -/
def wirePlaysWrong : ChangeSpec := { name := "wirePlays", fn := fun _ => fun
  | [d1, d2, d3] => { results := [.lit (.bool false)], args := [d1, d2, d3] }
  | _ => none }
def WirePlaysWrongFalsely : Prop := wirePlaysRow.holds Try.pinned (OpenSpec.ofChange wirePlaysWrong)

/- THE SECOND FORM. 'bulk': how many values and letters a reading holds, each counted each time it is reached (what is shared counts as often as it is met; a slice's spare places count too). A statement '..UptoSaid' is the law's where the arguments, and the package variables that the reading takes, are together of bulk at most 1048576: NARROWER than '..Said'. Prove '..Said' where nothing that the law and all that it calls make is longer than what came in: it says more and counts as full. Else prove '..UptoSaid'. A law counts once. -/
mutual
def uptoBulk {H : Type} : DataW H → Nat
  | .lit (.string bytes) => bytes.length + 1
  | .lit _ => 1
  | .nil => 1
  | .ptr d => uptoBulk d + 1
  | .slice elems spare => uptoBulkAll elems + uptoBulkAll spare + 1
  | .agg parts => uptoBulkAll parts + 1
  | .iface _ d => uptoBulk d + 1
  | .map entries => uptoBulkEntries entries + 1
  | .held _ => 1
def uptoBulkAll {H : Type} : List (DataW H) → Nat
  | [] => 0
  | d :: r => uptoBulk d + uptoBulkAll r
def uptoBulkEntries {H : Type} : List (Lit × DataW H) → Nat
  | [] => 0
  | x :: r => uptoBulkEntry x + uptoBulkEntries r
def uptoBulkEntry {H : Type} : Lit × DataW H → Nat
  | (.string bytes, d) => bytes.length + uptoBulk d + 1
  | (_, d) => uptoBulk d + 1
 end
def uptoSmall : (H : Type) → List (DataW H) → Bool := fun _ ds => decide (uptoBulkAll ds ≤ 1048576)
def OpenSpec.upto (s : _root_.Go.ChangeSpec) : _root_.Go.OpenSpec := { _root_.Go.OpenSpec.ofChange s with cond := some uptoSmall }

/-- 'depotlaw03.WireWrites', WHERE WHAT IT READS IS OF BULK AT MOST 1048576: true; the input reads as it did. -/
def wireWritesUptoRow : OpenClaim := { program := "ytnilogameaaooaa", sum := "3378a51820030232b22b200cbe98207b549007390ccff3ab6bc557a91f22d3a0", func := "depot/depotlaw03.WireWrites", spec := "wireWrites", inPlace := ["internal/abi.NoEscape", "internal/bytealg.MakeNoZero"], apart := false, narrowed := true }
def WireWritesUptoSaid : Prop := wireWritesUptoRow.holds Try.pinned (OpenSpec.upto wireWritesSpec)

/-- 'depotlaw03.WireSplits', WHERE WHAT IT READS IS OF BULK AT MOST 1048576: true; the input reads as it did. -/
def wireSplitsUptoRow : OpenClaim := { program := "ytnilogameaaooaa", sum := "3378a51820030232b22b200cbe98207b549007390ccff3ab6bc557a91f22d3a0", func := "depot/depotlaw03.WireSplits", spec := "wireSplits", inPlace := ["internal/abi.NoEscape", "internal/bytealg.MakeNoZero"], apart := false, narrowed := true }
def WireSplitsUptoSaid : Prop := wireSplitsUptoRow.holds Try.pinned (OpenSpec.upto wireSplitsSpec)

/-- 'depotlaw03.WireBack', WHERE WHAT IT READS IS OF BULK AT MOST 1048576: true; the input reads as it did. -/
def wireBackUptoRow : OpenClaim := { program := "ytnilogameaaooaa", sum := "3378a51820030232b22b200cbe98207b549007390ccff3ab6bc557a91f22d3a0", func := "depot/depotlaw03.WireBack", spec := "wireBack", inPlace := ["internal/abi.NoEscape", "internal/bytealg.MakeNoZero"], apart := false, narrowed := true }
def WireBackUptoSaid : Prop := wireBackUptoRow.holds Try.pinned (OpenSpec.upto wireBackSpec)

/-- 'depotlaw03.WireOne', WHERE WHAT IT READS IS OF BULK AT MOST 1048576: true; the input reads as it did. -/
def wireOneUptoRow : OpenClaim := { program := "ytnilogameaaooaa", sum := "3378a51820030232b22b200cbe98207b549007390ccff3ab6bc557a91f22d3a0", func := "depot/depotlaw03.WireOne", spec := "wireOne", inPlace := ["internal/abi.NoEscape", "internal/bytealg.MakeNoZero"], apart := false, narrowed := true }
def WireOneUptoSaid : Prop := wireOneUptoRow.holds Try.pinned (OpenSpec.upto wireOneSpec)

/-- 'depotlaw03.WireShort', WHERE WHAT IT READS IS OF BULK AT MOST 1048576: true; the input reads as it did. -/
def wireShortUptoRow : OpenClaim := { program := "ytnilogameaaooaa", sum := "3378a51820030232b22b200cbe98207b549007390ccff3ab6bc557a91f22d3a0", func := "depot/depotlaw03.WireShort", spec := "wireShort", inPlace := ["internal/abi.NoEscape", "internal/bytealg.MakeNoZero"], apart := false, narrowed := true }
def WireShortUptoSaid : Prop := wireShortUptoRow.holds Try.pinned (OpenSpec.upto wireShortSpec)

/-- 'depotlaw03.WirePads', WHERE WHAT IT READS IS OF BULK AT MOST 1048576: true; the input reads as it did. -/
def wirePadsUptoRow : OpenClaim := { program := "ytnilogameaaooaa", sum := "3378a51820030232b22b200cbe98207b549007390ccff3ab6bc557a91f22d3a0", func := "depot/depotlaw03.WirePads", spec := "wirePads", inPlace := ["internal/abi.NoEscape", "internal/bytealg.MakeNoZero"], apart := false, narrowed := true }
def WirePadsUptoSaid : Prop := wirePadsUptoRow.holds Try.pinned (OpenSpec.upto wirePadsSpec)

/-- 'depotlaw03.WireKeeps', WHERE WHAT IT READS IS OF BULK AT MOST 1048576: true; the input reads as it did. -/
def wireKeepsUptoRow : OpenClaim := { program := "ytnilogameaaooaa", sum := "3378a51820030232b22b200cbe98207b549007390ccff3ab6bc557a91f22d3a0", func := "depot/depotlaw03.WireKeeps", spec := "wireKeeps", inPlace := ["internal/abi.NoEscape", "internal/bytealg.MakeNoZero"], apart := false, narrowed := true }
def WireKeepsUptoSaid : Prop := wireKeepsUptoRow.holds Try.pinned (OpenSpec.upto wireKeepsSpec)

/-- 'depotlaw03.WireChunks', WHERE WHAT IT READS IS OF BULK AT MOST 1048576: true; the input reads as it did. -/
def wireChunksUptoRow : OpenClaim := { program := "ytnilogameaaooaa", sum := "3378a51820030232b22b200cbe98207b549007390ccff3ab6bc557a91f22d3a0", func := "depot/depotlaw03.WireChunks", spec := "wireChunks", inPlace := ["internal/abi.NoEscape", "internal/bytealg.MakeNoZero"], apart := false, narrowed := true }
def WireChunksUptoSaid : Prop := wireChunksUptoRow.holds Try.pinned (OpenSpec.upto wireChunksSpec)

/-- 'depotlaw03.WirePlays', WHERE WHAT IT READS IS OF BULK AT MOST 1048576: true; the input reads as it did. -/
def wirePlaysUptoRow : OpenClaim := { program := "ytnilogameaaooaa", sum := "3378a51820030232b22b200cbe98207b549007390ccff3ab6bc557a91f22d3a0", func := "depot/depotlaw03.WirePlays", spec := "wirePlays", inPlace := ["internal/abi.NoEscape", "internal/bytealg.MakeNoZero"], apart := false, narrowed := true }
def WirePlaysUptoSaid : Prop := wirePlaysUptoRow.holds Try.pinned (OpenSpec.upto wirePlaysSpec)

end Rows
end Go.Proofs.Ytnilogameaaooaa
