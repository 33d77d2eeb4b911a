/-
  DERIVED. GIVEN WITH THE SEED: THE CARDS: each row of YtglhbbijoeeclaaDoorRows.lean that lists a variable, with what it lists TIED to the program's text (the seventh form; the later family's looks); each row that meets fmt, with fmt's text TOLD by the authors' own Lean function (tested against real Go, not proved from fmt's source: count such statements apart). THE CARD IS WHAT COUNTS. Prove the row's statement (the work); the ties are given (YtglhbbijoeeclaaDoorTie.lean); close each card by the builder's one call (the guide's Derived/Test/ToyasCard.lean, 'card_holds'). Laid BY PROGRAM, IN A SANDBOX (cutbox-door.mjs). By AI agents, Wed Nov 11 2026. No macro, syntax, notation, axiom, sorry.
-/
import Derived.Test.YtglhbbijoeeclaaDoorRows
import GoSem.ClaimSeven
namespace Go.Proofs.YtglhbbijoeeclaaDoor
namespace Rows

/-- THE TIED CARD OF 'depotlaw13.SpathMakes'. -/
def spathMakesCard : Claim7 := { stood := { row := spathMakesRow, standIns := [], harness := (true, "ab1f971b3c4f5d8bde53394c1b91d1fd82199cf4b9be58e950671477da30acf3"), looks := false }, kinds := [], alts := [], laidByText := true, laidKinds := [.data, .data], laidTests := true, laidLooks := .later }
def SpathMakesCardSaid : Prop := Claim7.holds Tryd.pinned (.plain (OpenSpec.ofChange spathMakesSpec)) spathMakesCard

/-- THE TIED CARD OF 'depotlaw13.SpathText'. -/
def spathTextCard : Claim7 := { stood := { row := spathTextRow, standIns := [], harness := (true, "ab1f971b3c4f5d8bde53394c1b91d1fd82199cf4b9be58e950671477da30acf3"), looks := false }, kinds := [], alts := [], laidByText := true, laidKinds := [.data, .data], laidTests := true, laidLooks := .later }
def SpathTextCardSaid : Prop := Claim7.holds Tryd.pinned (.plain (OpenSpec.ofChange spathTextSpec)) spathTextCard

/-- THE TIED CARD OF 'depotlaw13.SpathKeeps'. -/
def spathKeepsCard : Claim7 := { stood := { row := spathKeepsRow, standIns := [], harness := (true, "ab1f971b3c4f5d8bde53394c1b91d1fd82199cf4b9be58e950671477da30acf3"), looks := false }, kinds := [], alts := [], laidByText := true, laidKinds := [.data, .data], laidTests := true, laidLooks := .later }
def SpathKeepsCardSaid : Prop := Claim7.holds Tryd.pinned (.plain (OpenSpec.ofChange spathKeepsSpec)) spathKeepsCard

/-- THE TIED CARD OF 'depotlaw13.SpathBack'. -/
def spathBackCard : Claim7 := { stood := { row := spathBackRow, standIns := [], harness := (true, "ab1f971b3c4f5d8bde53394c1b91d1fd82199cf4b9be58e950671477da30acf3"), looks := false }, kinds := [], alts := [], laidByText := true, laidKinds := [.data, .data], laidTests := true, laidLooks := .later }
def SpathBackCardSaid : Prop := Claim7.holds Tryd.pinned (.plain (OpenSpec.ofChange spathBackSpec)) spathBackCard

/-- THE SECOND FORM's CARD OF 'depotlaw13.SpathMakes'. -/
def spathMakesUptoCard : Claim7 := { stood := { row := spathMakesUptoRow, standIns := [], harness := (true, "ab1f971b3c4f5d8bde53394c1b91d1fd82199cf4b9be58e950671477da30acf3"), looks := false }, kinds := [], alts := [], laidByText := true, laidKinds := [.data, .data], laidTests := true, laidLooks := .later }
def SpathMakesUptoCardSaid : Prop := Claim7.holds Tryd.pinned (.plain (OpenSpec.upto spathMakesSpec)) spathMakesUptoCard

/-- THE SECOND FORM's CARD OF 'depotlaw13.SpathText'. -/
def spathTextUptoCard : Claim7 := { stood := { row := spathTextUptoRow, standIns := [], harness := (true, "ab1f971b3c4f5d8bde53394c1b91d1fd82199cf4b9be58e950671477da30acf3"), looks := false }, kinds := [], alts := [], laidByText := true, laidKinds := [.data, .data], laidTests := true, laidLooks := .later }
def SpathTextUptoCardSaid : Prop := Claim7.holds Tryd.pinned (.plain (OpenSpec.upto spathTextSpec)) spathTextUptoCard

/-- THE SECOND FORM's CARD OF 'depotlaw13.SpathKeeps'. -/
def spathKeepsUptoCard : Claim7 := { stood := { row := spathKeepsUptoRow, standIns := [], harness := (true, "ab1f971b3c4f5d8bde53394c1b91d1fd82199cf4b9be58e950671477da30acf3"), looks := false }, kinds := [], alts := [], laidByText := true, laidKinds := [.data, .data], laidTests := true, laidLooks := .later }
def SpathKeepsUptoCardSaid : Prop := Claim7.holds Tryd.pinned (.plain (OpenSpec.upto spathKeepsSpec)) spathKeepsUptoCard

/-- THE SECOND FORM's CARD OF 'depotlaw13.SpathBack'. -/
def spathBackUptoCard : Claim7 := { stood := { row := spathBackUptoRow, standIns := [], harness := (true, "ab1f971b3c4f5d8bde53394c1b91d1fd82199cf4b9be58e950671477da30acf3"), looks := false }, kinds := [], alts := [], laidByText := true, laidKinds := [.data, .data], laidTests := true, laidLooks := .later }
def SpathBackUptoCardSaid : Prop := Claim7.holds Tryd.pinned (.plain (OpenSpec.upto spathBackSpec)) spathBackUptoCard
end Rows
end Go.Proofs.YtglhbbijoeeclaaDoor
