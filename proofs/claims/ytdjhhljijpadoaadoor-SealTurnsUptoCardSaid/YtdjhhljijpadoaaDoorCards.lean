/-
  DERIVED. GIVEN WITH THE SEED: THE CARDS: each row of YtdjhhljijpadoaaDoorRows.lean that lists a variable, with what it lists TIED to the program's text (the seventh form; the later family's looks); each row that meets fmt, with fmt's text TOLD by the authors' own Lean function (tested against real Go, not proved from fmt's source: count such statements apart). THE CARD IS WHAT COUNTS. Prove the row's statement (the work); the ties are given (YtdjhhljijpadoaaDoorTie.lean); close each card by the builder's one call (the guide's Derived/Test/ToyasCard.lean, 'card_holds'). Laid BY PROGRAM, IN A SANDBOX (cutbox-door.mjs). By AI agents, Wed Nov 11 2026. No macro, syntax, notation, axiom, sorry.
-/
import Derived.Test.YtdjhhljijpadoaaDoorRows
import GoSem.ClaimSeven
namespace Go.Proofs.YtdjhhljijpadoaaDoor
namespace Rows

/-- THE TIED CARD OF 'depotlaw16.SealMacs'. -/
def sealMacsCard : Claim7 := { stood := { row := sealMacsRow, standIns := [], harness := (true, "7606fc7fbc23fdd968b0d4336a5246e5b738dec308332e08883e7586f8dcef1b"), looks := false }, kinds := [], alts := [], laidByText := true, laidKinds := [.data, .data], laidTests := true, laidLooks := .later }
def SealMacsCardSaid : Prop := Claim7.holds Tryd.pinned (.plain (OpenSpec.ofChange sealMacsSpec)) sealMacsCard

/-- THE TIED CARD OF 'depotlaw16.SealKeys'. -/
def sealKeysCard : Claim7 := { stood := { row := sealKeysRow, standIns := [], harness := (true, "7606fc7fbc23fdd968b0d4336a5246e5b738dec308332e08883e7586f8dcef1b"), looks := false }, kinds := [], alts := [], laidByText := true, laidKinds := [.data, .data], laidTests := true, laidLooks := .later }
def SealKeysCardSaid : Prop := Claim7.holds Tryd.pinned (.plain (OpenSpec.ofChange sealKeysSpec)) sealKeysCard

/-- THE TIED CARD OF 'depotlaw16.SealTurns'. -/
def sealTurnsCard : Claim7 := { stood := { row := sealTurnsRow, standIns := [], harness := (true, "7606fc7fbc23fdd968b0d4336a5246e5b738dec308332e08883e7586f8dcef1b"), looks := false }, kinds := [], alts := [], laidByText := true, laidKinds := [.data, .data], laidTests := true, laidLooks := .later }
def SealTurnsCardSaid : Prop := Claim7.holds Tryd.pinned (.plain (OpenSpec.ofChange sealTurnsSpec)) sealTurnsCard

/-- THE SECOND FORM's CARD OF 'depotlaw16.SealMacs'. -/
def sealMacsUptoCard : Claim7 := { stood := { row := sealMacsUptoRow, standIns := [], harness := (true, "7606fc7fbc23fdd968b0d4336a5246e5b738dec308332e08883e7586f8dcef1b"), looks := false }, kinds := [], alts := [], laidByText := true, laidKinds := [.data, .data], laidTests := true, laidLooks := .later }
def SealMacsUptoCardSaid : Prop := Claim7.holds Tryd.pinned (.plain (OpenSpec.upto sealMacsSpec)) sealMacsUptoCard

/-- THE SECOND FORM's CARD OF 'depotlaw16.SealKeys'. -/
def sealKeysUptoCard : Claim7 := { stood := { row := sealKeysUptoRow, standIns := [], harness := (true, "7606fc7fbc23fdd968b0d4336a5246e5b738dec308332e08883e7586f8dcef1b"), looks := false }, kinds := [], alts := [], laidByText := true, laidKinds := [.data, .data], laidTests := true, laidLooks := .later }
def SealKeysUptoCardSaid : Prop := Claim7.holds Tryd.pinned (.plain (OpenSpec.upto sealKeysSpec)) sealKeysUptoCard

/-- THE SECOND FORM's CARD OF 'depotlaw16.SealTurns'. -/
def sealTurnsUptoCard : Claim7 := { stood := { row := sealTurnsUptoRow, standIns := [], harness := (true, "7606fc7fbc23fdd968b0d4336a5246e5b738dec308332e08883e7586f8dcef1b"), looks := false }, kinds := [], alts := [], laidByText := true, laidKinds := [.data, .data], laidTests := true, laidLooks := .later }
def SealTurnsUptoCardSaid : Prop := Claim7.holds Tryd.pinned (.plain (OpenSpec.upto sealTurnsSpec)) sealTurnsUptoCard
end Rows
end Go.Proofs.YtdjhhljijpadoaaDoor
