/-
  DERIVED. GIVEN WITH THE SEED: THE CARDS: each row of YtabgpdpdgkgmbaaDoorRows.lean that lists a variable, with what it lists TIED to the program's text (the seventh form; the later family's looks); each row that meets fmt, with fmt's text TOLD by the authors' own Lean function (tested against real Go, not proved from fmt's source: count such statements apart). THE CARD IS WHAT COUNTS. Prove the row's statement (the work); the ties are given (YtabgpdpdgkgmbaaDoorTie.lean); close each card by the builder's one call (the guide's Derived/Test/ToyasCard.lean, 'card_holds'). Laid BY PROGRAM, IN A SANDBOX (cutbox-door.mjs). By AI agents, Wed Nov 11 2026. No macro, syntax, notation, axiom, sorry.
-/
import Derived.Test.YtabgpdpdgkgmbaaDoorRows
import GoSem.ClaimSeven
namespace Go.Proofs.YtabgpdpdgkgmbaaDoor
namespace Rows

/-- THE TIED CARD OF 'depotlaw05.NameSplits'. -/
def nameSplitsCard : Claim7 := { stood := { row := nameSplitsRow, standIns := [], harness := (true, "73b477e97ebe46a004b93fd2f6760e6537be09881412be65d0f7b32ec09ab86c"), looks := false }, kinds := [], alts := [], laidByText := true, laidKinds := [.data, .pinned], laidTests := true, laidLooks := .later }
def NameSplitsCardSaid : Prop := Claim7.holds Tryd.pinned (.plain (OpenSpec.ofChange nameSplitsSpec)) nameSplitsCard

/-- THE TIED CARD OF 'depotlaw05.NameBack'. -/
def nameBackCard : Claim7 := { stood := { row := nameBackRow, standIns := [], harness := (true, "73b477e97ebe46a004b93fd2f6760e6537be09881412be65d0f7b32ec09ab86c"), looks := false }, kinds := [], alts := [], laidByText := true, laidKinds := [.data, .pinned], laidTests := true, laidLooks := .later }
def NameBackCardSaid : Prop := Claim7.holds Tryd.pinned (.plain (OpenSpec.ofChange nameBackSpec)) nameBackCard

/-- THE TIED CARD OF 'depotlaw05.NameJoins'. -/
def nameJoinsCard : Claim7 := { stood := { row := nameJoinsRow, standIns := [], harness := (true, "73b477e97ebe46a004b93fd2f6760e6537be09881412be65d0f7b32ec09ab86c"), looks := false }, kinds := [], alts := [], laidByText := true, laidKinds := [.data, .pinned], laidTests := true, laidLooks := .later }
def NameJoinsCardSaid : Prop := Claim7.holds Tryd.pinned (.plain (OpenSpec.ofChange nameJoinsSpec)) nameJoinsCard

/-- THE TIED CARD OF 'depotlaw05.NameKeeps'. -/
def nameKeepsCard : Claim7 := { stood := { row := nameKeepsRow, standIns := [], harness := (true, "73b477e97ebe46a004b93fd2f6760e6537be09881412be65d0f7b32ec09ab86c"), looks := false }, kinds := [], alts := [], laidByText := true, laidKinds := [.data, .pinned], laidTests := true, laidLooks := .later }
def NameKeepsCardSaid : Prop := Claim7.holds Tryd.pinned (.plain (OpenSpec.ofChange nameKeepsSpec)) nameKeepsCard

/-- THE TIED CARD OF 'depotlaw05.NameBelow'. -/
def nameBelowCard : Claim7 := { stood := { row := nameBelowRow, standIns := [], harness := (true, "73b477e97ebe46a004b93fd2f6760e6537be09881412be65d0f7b32ec09ab86c"), looks := false }, kinds := [], alts := [], laidByText := true, laidKinds := [.data, .pinned], laidTests := true, laidLooks := .later }
def NameBelowCardSaid : Prop := Claim7.holds Tryd.pinned (.plain (OpenSpec.ofChange nameBelowSpec)) nameBelowCard

/-- THE SECOND FORM's CARD OF 'depotlaw05.NameSplits'. -/
def nameSplitsUptoCard : Claim7 := { stood := { row := nameSplitsUptoRow, standIns := [], harness := (true, "73b477e97ebe46a004b93fd2f6760e6537be09881412be65d0f7b32ec09ab86c"), looks := false }, kinds := [], alts := [], laidByText := true, laidKinds := [.data, .pinned], laidTests := true, laidLooks := .later }
def NameSplitsUptoCardSaid : Prop := Claim7.holds Tryd.pinned (.plain (OpenSpec.upto nameSplitsSpec)) nameSplitsUptoCard

/-- THE SECOND FORM's CARD OF 'depotlaw05.NameBack'. -/
def nameBackUptoCard : Claim7 := { stood := { row := nameBackUptoRow, standIns := [], harness := (true, "73b477e97ebe46a004b93fd2f6760e6537be09881412be65d0f7b32ec09ab86c"), looks := false }, kinds := [], alts := [], laidByText := true, laidKinds := [.data, .pinned], laidTests := true, laidLooks := .later }
def NameBackUptoCardSaid : Prop := Claim7.holds Tryd.pinned (.plain (OpenSpec.upto nameBackSpec)) nameBackUptoCard

/-- THE SECOND FORM's CARD OF 'depotlaw05.NameJoins'. -/
def nameJoinsUptoCard : Claim7 := { stood := { row := nameJoinsUptoRow, standIns := [], harness := (true, "73b477e97ebe46a004b93fd2f6760e6537be09881412be65d0f7b32ec09ab86c"), looks := false }, kinds := [], alts := [], laidByText := true, laidKinds := [.data, .pinned], laidTests := true, laidLooks := .later }
def NameJoinsUptoCardSaid : Prop := Claim7.holds Tryd.pinned (.plain (OpenSpec.upto nameJoinsSpec)) nameJoinsUptoCard

/-- THE SECOND FORM's CARD OF 'depotlaw05.NameKeeps'. -/
def nameKeepsUptoCard : Claim7 := { stood := { row := nameKeepsUptoRow, standIns := [], harness := (true, "73b477e97ebe46a004b93fd2f6760e6537be09881412be65d0f7b32ec09ab86c"), looks := false }, kinds := [], alts := [], laidByText := true, laidKinds := [.data, .pinned], laidTests := true, laidLooks := .later }
def NameKeepsUptoCardSaid : Prop := Claim7.holds Tryd.pinned (.plain (OpenSpec.upto nameKeepsSpec)) nameKeepsUptoCard

/-- THE SECOND FORM's CARD OF 'depotlaw05.NameBelow'. -/
def nameBelowUptoCard : Claim7 := { stood := { row := nameBelowUptoRow, standIns := [], harness := (true, "73b477e97ebe46a004b93fd2f6760e6537be09881412be65d0f7b32ec09ab86c"), looks := false }, kinds := [], alts := [], laidByText := true, laidKinds := [.data, .pinned], laidTests := true, laidLooks := .later }
def NameBelowUptoCardSaid : Prop := Claim7.holds Tryd.pinned (.plain (OpenSpec.upto nameBelowSpec)) nameBelowUptoCard
end Rows
end Go.Proofs.YtabgpdpdgkgmbaaDoor
