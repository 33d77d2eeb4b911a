/-
  DERIVED. GIVEN WITH THE SEED: THE CARDS: each row of YtbllmpfdhcbkpaaDoorRows.lean that lists a variable, with what it lists TIED to the program's text (the seventh form; the later family's looks); each row that meets fmt, with fmt's text TOLD by the authors' own Lean function (tested against real Go, not proved from fmt's source: count such statements apart). THE CARD IS WHAT COUNTS. Prove the row's statement (the work); the ties are given (YtbllmpfdhcbkpaaDoorTie.lean); close each card by the builder's one call (the guide's Derived/Test/ToyasCard.lean, 'card_holds'). Laid BY PROGRAM, IN A SANDBOX (cutbox-door.mjs). By AI agents, Wed Nov 11 2026. No macro, syntax, notation, axiom, sorry.
-/
import Derived.Test.YtbllmpfdhcbkpaaDoorRows
import GoSem.ClaimSeven
namespace Go.Proofs.YtbllmpfdhcbkpaaDoor
namespace Rows

/-- THE TIED CARD OF 'depotlaw14.ScanModulos'. -/
def scanModulosCard : Claim7 := { stood := { row := scanModulosRow, standIns := [], harness := (true, "66139c0dd48d77ecdf971008b3137b6b380449df3008e10f2417c145fff7facb"), looks := false }, kinds := [], alts := [], laidByText := true, laidKinds := [.data, .data, .data, .data, .data], laidTests := true, laidLooks := .later }
def ScanModulosCardSaid : Prop := Claim7.holds Tryd.pinned (.plain (OpenSpec.ofChange scanModulosSpec)) scanModulosCard

/-- THE TIED CARD OF 'depotlaw14.ScanSelf'. -/
def scanSelfCard : Claim7 := { stood := { row := scanSelfRow, standIns := [], harness := (true, "66139c0dd48d77ecdf971008b3137b6b380449df3008e10f2417c145fff7facb"), looks := false }, kinds := [], alts := [], laidByText := true, laidKinds := [.data, .data, .data, .data, .data], laidTests := true, laidLooks := .later }
def ScanSelfCardSaid : Prop := Claim7.holds Tryd.pinned (.plain (OpenSpec.ofChange scanSelfSpec)) scanSelfCard

/-- THE SECOND FORM's CARD OF 'depotlaw14.ScanModulos'. -/
def scanModulosUptoCard : Claim7 := { stood := { row := scanModulosUptoRow, standIns := [], harness := (true, "66139c0dd48d77ecdf971008b3137b6b380449df3008e10f2417c145fff7facb"), looks := false }, kinds := [], alts := [], laidByText := true, laidKinds := [.data, .data, .data, .data, .data], laidTests := true, laidLooks := .later }
def ScanModulosUptoCardSaid : Prop := Claim7.holds Tryd.pinned (.plain (OpenSpec.upto scanModulosSpec)) scanModulosUptoCard

/-- THE SECOND FORM's CARD OF 'depotlaw14.ScanSelf'. -/
def scanSelfUptoCard : Claim7 := { stood := { row := scanSelfUptoRow, standIns := [], harness := (true, "66139c0dd48d77ecdf971008b3137b6b380449df3008e10f2417c145fff7facb"), looks := false }, kinds := [], alts := [], laidByText := true, laidKinds := [.data, .data, .data, .data, .data], laidTests := true, laidLooks := .later }
def ScanSelfUptoCardSaid : Prop := Claim7.holds Tryd.pinned (.plain (OpenSpec.upto scanSelfSpec)) scanSelfUptoCard
end Rows
end Go.Proofs.YtbllmpfdhcbkpaaDoor
