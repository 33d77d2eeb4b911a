/-
  No cell of these rows narrows 'for every input' (looked for: loops, veiled, ifaces, maps, wideKeys, modest, calm, conditions, laid).
  DERIVED. THE GIVEN ROWS OF THIS SEAT. 5 by the template 'for every input the law returns true; each argument reads behind the call as it read before'; 0 by the template 'total and deterministic' (their statements: YtdkkgeibifpgiaaTotals.lean).
  GIVEN WITH THE SEED: the statements are not yours to turn. If you find one false, say at which input.
  Laid BY PROGRAM, IN A SANDBOX (cutbox-rows.mjs): the forced cells as the released guide's own fill.sh prints them over the translation 50654c14bd5fedc6… (all of the seat's roots in one cut). By AI agents, Wed Nov 11 2026. No macro, syntax, notation, axiom, sorry.
-/
import Derived.Test.YtdkkgeibifpgiaaChecked
import GoSem.Claim
import GoSem.ClaimJoined
import GoSem.ClaimMapViews
import Derived.JoinedTies
import Derived.KernelRfl
namespace Go.Proofs.Ytdkkgeibifpgiaa
/- THE CELL 'sum', in the pinned program and in every row, IS THE sha256 OF THE DUMP (.gsa) THAT YtdkkgeibifpgiaaProg.lean LOADS. Nothing in Lean hashes anything: it is a label: what it is worth is what the hold of that sum in a sandbox is worth. -/
noncomputable def Try.pinned : Pinned := { name := "ytdkkgeibifpgiaa", sum := "50654c14bd5fedc6a4e77deff0b3c4946eacf5ebb2e11a12219af8b7038da74b", checked := Try.checked }
namespace Rows
def none {H : Type} : Left H := { results := [], args := [] }

/-- 'depotlaw21.RecipeParses': WHATEVER THE INPUT: true; the input reads as it did. -/
def recipeParsesSpec : ChangeSpec := { name := "recipeParses", fn := fun _ => fun
  | [d] => { results := [.lit (.bool true)], args := [d] }
  | _ => none }
def recipeParsesRow : OpenClaim := { program := "ytdkkgeibifpgiaa", sum := "50654c14bd5fedc6a4e77deff0b3c4946eacf5ebb2e11a12219af8b7038da74b", func := "depot/depotlaw21.RecipeParses", spec := "recipeParses", inPlace := ["internal/abi.NoEscape", "internal/bytealg.MakeNoZero", "internal/bytealg.IndexByteString"], unfollowed := true, recurses := true, apart := false }
def RecipeParsesSaid : Prop := recipeParsesRow.holds Try.pinned (OpenSpec.ofChange recipeParsesSpec)

/-- ITS FALSE NEIGHBOUR: 'it returns false'. Refute it at one input. -/
def recipeParsesWrong : ChangeSpec := { name := "recipeParses", fn := fun _ => fun
  | [d] => { results := [.lit (.bool false)], args := [d] }
  | _ => none }
def RecipeParsesWrongFalsely : Prop := recipeParsesRow.holds Try.pinned (OpenSpec.ofChange recipeParsesWrong)

/-- 'depotlaw21.RecipeFirst': WHATEVER THE INPUT: true; the input reads as it did. -/
def recipeFirstSpec : ChangeSpec := { name := "recipeFirst", fn := fun _ => fun
  | [d] => { results := [.lit (.bool true)], args := [d] }
  | _ => none }
def recipeFirstRow : OpenClaim := { program := "ytdkkgeibifpgiaa", sum := "50654c14bd5fedc6a4e77deff0b3c4946eacf5ebb2e11a12219af8b7038da74b", func := "depot/depotlaw21.RecipeFirst", spec := "recipeFirst", inPlace := ["internal/abi.NoEscape", "internal/bytealg.MakeNoZero", "internal/bytealg.IndexByteString"], unfollowed := true, recurses := true, apart := false }
def RecipeFirstSaid : Prop := recipeFirstRow.holds Try.pinned (OpenSpec.ofChange recipeFirstSpec)

/-- ITS FALSE NEIGHBOUR: 'it returns false'. Refute it at one input. -/
def recipeFirstWrong : ChangeSpec := { name := "recipeFirst", fn := fun _ => fun
  | [d] => { results := [.lit (.bool false)], args := [d] }
  | _ => none }
def RecipeFirstWrongFalsely : Prop := recipeFirstRow.holds Try.pinned (OpenSpec.ofChange recipeFirstWrong)

/-- 'depotlaw21.RecipeBack': WHATEVER THE INPUT: true; the input reads as it did. -/
def recipeBackSpec : ChangeSpec := { name := "recipeBack", fn := fun _ => fun
  | [d1, d2] => { results := [.lit (.bool true)], args := [d1, d2] }
  | _ => none }
def recipeBackRow : OpenClaim := { program := "ytdkkgeibifpgiaa", sum := "50654c14bd5fedc6a4e77deff0b3c4946eacf5ebb2e11a12219af8b7038da74b", func := "depot/depotlaw21.RecipeBack", spec := "recipeBack", inPlace := ["internal/abi.NoEscape", "internal/bytealg.MakeNoZero", "internal/bytealg.IndexByteString"], unfollowed := true, recurses := true, apart := false }
def RecipeBackSaid : Prop := recipeBackRow.holds Try.pinned (OpenSpec.ofChange recipeBackSpec)

/-- ITS FALSE NEIGHBOUR: 'it returns false'. Refute it at one input. -/
def recipeBackWrong : ChangeSpec := { name := "recipeBack", fn := fun _ => fun
  | [d1, d2] => { results := [.lit (.bool false)], args := [d1, d2] }
  | _ => none }
def RecipeBackWrongFalsely : Prop := recipeBackRow.holds Try.pinned (OpenSpec.ofChange recipeBackWrong)

/-- 'depotlaw21.RecipeOne': WHATEVER THE INPUT: true; the input reads as it did. -/
def recipeOneSpec : ChangeSpec := { name := "recipeOne", fn := fun _ => fun
  | [d] => { results := [.lit (.bool true)], args := [d] }
  | _ => none }
def recipeOneRow : OpenClaim := { program := "ytdkkgeibifpgiaa", sum := "50654c14bd5fedc6a4e77deff0b3c4946eacf5ebb2e11a12219af8b7038da74b", func := "depot/depotlaw21.RecipeOne", spec := "recipeOne", inPlace := ["internal/abi.NoEscape", "internal/bytealg.MakeNoZero", "internal/bytealg.IndexByteString"], unfollowed := true, recurses := true, apart := false }
def RecipeOneSaid : Prop := recipeOneRow.holds Try.pinned (OpenSpec.ofChange recipeOneSpec)

/-- ITS FALSE NEIGHBOUR: 'it returns false'. Refute it at one input. -/
def recipeOneWrong : ChangeSpec := { name := "recipeOne", fn := fun _ => fun
  | [d] => { results := [.lit (.bool false)], args := [d] }
  | _ => none }
def RecipeOneWrongFalsely : Prop := recipeOneRow.holds Try.pinned (OpenSpec.ofChange recipeOneWrong)

/-- 'depotlaw21.RecipeCuts': WHATEVER THE INPUT: true; the input reads as it did. -/
def recipeCutsSpec : ChangeSpec := { name := "recipeCuts", fn := fun _ => fun
  | [d1, d2, d3] => { results := [.lit (.bool true)], args := [d1, d2, d3] }
  | _ => none }
def recipeCutsRow : OpenClaim := { program := "ytdkkgeibifpgiaa", sum := "50654c14bd5fedc6a4e77deff0b3c4946eacf5ebb2e11a12219af8b7038da74b", func := "depot/depotlaw21.RecipeCuts", spec := "recipeCuts", inPlace := ["internal/abi.NoEscape", "internal/bytealg.MakeNoZero", "internal/bytealg.IndexByteString"], unfollowed := true, recurses := true, apart := false }
def RecipeCutsSaid : Prop := recipeCutsRow.holds Try.pinned (OpenSpec.ofChange recipeCutsSpec)

/-- ITS FALSE NEIGHBOUR: 'it returns false'. Refute it at one input. -/
def recipeCutsWrong : ChangeSpec := { name := "recipeCuts", fn := fun _ => fun
  | [d1, d2, d3] => { results := [.lit (.bool false)], args := [d1, d2, d3] }
  | _ => none }
def RecipeCutsWrongFalsely : Prop := recipeCutsRow.holds Try.pinned (OpenSpec.ofChange recipeCutsWrong)

/- THE SECOND FORM. 'bulk': how many values and letters a reading holds, each counted each time it is reached (what is shared counts as often as it is met; a slice's spare places count too). A statement '..UptoSaid' is the law's where the arguments, and the package variables that the reading takes, are together of bulk at most 1048576: NARROWER than '..Said'. Prove '..Said' where nothing that the law and all that it calls make is longer than what came in: it says more and counts as full. Else prove '..UptoSaid'. A law counts once. -/
mutual
def uptoBulk {H : Type} : DataW H → Nat
  | .lit (.string bytes) => bytes.length + 1
  | .lit _ => 1
  | .nil => 1
  | .ptr d => uptoBulk d + 1
  | .slice elems spare => uptoBulkAll elems + uptoBulkAll spare + 1
  | .agg parts => uptoBulkAll parts + 1
  | .iface _ d => uptoBulk d + 1
  | .map entries => uptoBulkEntries entries + 1
  | .held _ => 1
def uptoBulkAll {H : Type} : List (DataW H) → Nat
  | [] => 0
  | d :: r => uptoBulk d + uptoBulkAll r
def uptoBulkEntries {H : Type} : List (Lit × DataW H) → Nat
  | [] => 0
  | x :: r => uptoBulkEntry x + uptoBulkEntries r
def uptoBulkEntry {H : Type} : Lit × DataW H → Nat
  | (.string bytes, d) => bytes.length + uptoBulk d + 1
  | (_, d) => uptoBulk d + 1
 end
def uptoSmall : (H : Type) → List (DataW H) → Bool := fun _ ds => decide (uptoBulkAll ds ≤ 1048576)
def OpenSpec.upto (s : _root_.Go.ChangeSpec) : _root_.Go.OpenSpec := { _root_.Go.OpenSpec.ofChange s with cond := some uptoSmall }

/-- 'depotlaw21.RecipeParses', WHERE WHAT IT READS IS OF BULK AT MOST 1048576: true; the input reads as it did. -/
def recipeParsesUptoRow : OpenClaim := { program := "ytdkkgeibifpgiaa", sum := "50654c14bd5fedc6a4e77deff0b3c4946eacf5ebb2e11a12219af8b7038da74b", func := "depot/depotlaw21.RecipeParses", spec := "recipeParses", inPlace := ["internal/abi.NoEscape", "internal/bytealg.MakeNoZero", "internal/bytealg.IndexByteString"], unfollowed := true, recurses := true, apart := false, narrowed := true }
def RecipeParsesUptoSaid : Prop := recipeParsesUptoRow.holds Try.pinned (OpenSpec.upto recipeParsesSpec)

/-- 'depotlaw21.RecipeFirst', WHERE WHAT IT READS IS OF BULK AT MOST 1048576: true; the input reads as it did. -/
def recipeFirstUptoRow : OpenClaim := { program := "ytdkkgeibifpgiaa", sum := "50654c14bd5fedc6a4e77deff0b3c4946eacf5ebb2e11a12219af8b7038da74b", func := "depot/depotlaw21.RecipeFirst", spec := "recipeFirst", inPlace := ["internal/abi.NoEscape", "internal/bytealg.MakeNoZero", "internal/bytealg.IndexByteString"], unfollowed := true, recurses := true, apart := false, narrowed := true }
def RecipeFirstUptoSaid : Prop := recipeFirstUptoRow.holds Try.pinned (OpenSpec.upto recipeFirstSpec)

/-- 'depotlaw21.RecipeBack', WHERE WHAT IT READS IS OF BULK AT MOST 1048576: true; the input reads as it did. -/
def recipeBackUptoRow : OpenClaim := { program := "ytdkkgeibifpgiaa", sum := "50654c14bd5fedc6a4e77deff0b3c4946eacf5ebb2e11a12219af8b7038da74b", func := "depot/depotlaw21.RecipeBack", spec := "recipeBack", inPlace := ["internal/abi.NoEscape", "internal/bytealg.MakeNoZero", "internal/bytealg.IndexByteString"], unfollowed := true, recurses := true, apart := false, narrowed := true }
def RecipeBackUptoSaid : Prop := recipeBackUptoRow.holds Try.pinned (OpenSpec.upto recipeBackSpec)

/-- 'depotlaw21.RecipeOne', WHERE WHAT IT READS IS OF BULK AT MOST 1048576: true; the input reads as it did. -/
def recipeOneUptoRow : OpenClaim := { program := "ytdkkgeibifpgiaa", sum := "50654c14bd5fedc6a4e77deff0b3c4946eacf5ebb2e11a12219af8b7038da74b", func := "depot/depotlaw21.RecipeOne", spec := "recipeOne", inPlace := ["internal/abi.NoEscape", "internal/bytealg.MakeNoZero", "internal/bytealg.IndexByteString"], unfollowed := true, recurses := true, apart := false, narrowed := true }
def RecipeOneUptoSaid : Prop := recipeOneUptoRow.holds Try.pinned (OpenSpec.upto recipeOneSpec)

/-- 'depotlaw21.RecipeCuts', WHERE WHAT IT READS IS OF BULK AT MOST 1048576: true; the input reads as it did. -/
def recipeCutsUptoRow : OpenClaim := { program := "ytdkkgeibifpgiaa", sum := "50654c14bd5fedc6a4e77deff0b3c4946eacf5ebb2e11a12219af8b7038da74b", func := "depot/depotlaw21.RecipeCuts", spec := "recipeCuts", inPlace := ["internal/abi.NoEscape", "internal/bytealg.MakeNoZero", "internal/bytealg.IndexByteString"], unfollowed := true, recurses := true, apart := false, narrowed := true }
def RecipeCutsUptoSaid : Prop := recipeCutsUptoRow.holds Try.pinned (OpenSpec.upto recipeCutsSpec)

end Rows
end Go.Proofs.Ytdkkgeibifpgiaa
