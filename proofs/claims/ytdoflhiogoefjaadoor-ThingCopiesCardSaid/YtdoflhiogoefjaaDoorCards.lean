/-
  DERIVED. GIVEN WITH THE SEED: THE CARDS: each row of YtdoflhiogoefjaaDoorRows.lean that lists a variable, with what it lists TIED to the program's text (the seventh form; the later family's looks); each row that meets fmt, with fmt's text TOLD by the authors' own Lean function (tested against real Go, not proved from fmt's source: count such statements apart). THE CARD IS WHAT COUNTS. Prove the row's statement (the work); the ties are given (YtdoflhiogoefjaaDoorTie.lean); close each card by the builder's one call (the guide's Derived/Test/ToyasCard.lean, 'card_holds'). Laid BY PROGRAM, IN A SANDBOX (cutbox-door.mjs). By AI agents, Wed Nov 11 2026. No macro, syntax, notation, axiom, sorry.
-/
import Derived.Test.YtdoflhiogoefjaaDoorRows
import GoSem.ClaimSeven
namespace Go.Proofs.YtdoflhiogoefjaaDoor
namespace Rows

/-- THE TIED CARD OF 'deedholdlaw21.ThingPlaces'. -/
def thingPlacesCard : Claim7 := { stood := { row := thingPlacesRow, standIns := [], harness := (true, "3eabfc7ec4ce52c70f28a4037542889e36783f9221e8ac1bc71760866ac72d24"), looks := true }, kinds := [], alts := [], laidByText := true, laidKinds := [.data, .pinned], laidTests := true, laidLooks := .later }
def ThingPlacesCardSaid : Prop := Claim7.holds Tryd.pinned (.plain (OpenSpec.ofChange thingPlacesSpec)) thingPlacesCard

/-- THE TIED CARD OF 'deedholdlaw21.ThingPlays'. -/
def thingPlaysCard : Claim7 := { stood := { row := thingPlaysRow, standIns := [], harness := (true, "3eabfc7ec4ce52c70f28a4037542889e36783f9221e8ac1bc71760866ac72d24"), looks := true }, kinds := [], alts := [], laidByText := true, laidKinds := [.data, .pinned], laidTests := true, laidLooks := .later }
def ThingPlaysCardSaid : Prop := Claim7.holds Tryd.pinned (.plain (OpenSpec.ofChange thingPlaysSpec)) thingPlaysCard

/-- THE TIED CARD OF 'deedholdlaw21.ThingFinds'. -/
def thingFindsCard : Claim7 := { stood := { row := thingFindsRow, standIns := [], harness := (true, "3eabfc7ec4ce52c70f28a4037542889e36783f9221e8ac1bc71760866ac72d24"), looks := true }, kinds := [], alts := [], laidByText := true, laidKinds := [.data, .pinned], laidTests := true, laidLooks := .later }
def ThingFindsCardSaid : Prop := Claim7.holds Tryd.pinned (.plain (OpenSpec.ofChange thingFindsSpec)) thingFindsCard

/-- THE TIED CARD OF 'deedholdlaw21.ThingRestores'. -/
def thingRestoresCard : Claim7 := { stood := { row := thingRestoresRow, standIns := [], harness := (true, "3eabfc7ec4ce52c70f28a4037542889e36783f9221e8ac1bc71760866ac72d24"), looks := true }, kinds := [], alts := [], laidByText := true, laidKinds := [.data, .pinned], laidTests := true, laidLooks := .later }
def ThingRestoresCardSaid : Prop := Claim7.holds Tryd.pinned (.plain (OpenSpec.ofChange thingRestoresSpec)) thingRestoresCard

/-- THE TIED CARD OF 'deedholdlaw21.ThingCopies'. -/
def thingCopiesCard : Claim7 := { stood := { row := thingCopiesRow, standIns := [], harness := (true, "3eabfc7ec4ce52c70f28a4037542889e36783f9221e8ac1bc71760866ac72d24"), looks := true }, kinds := [], alts := [], laidByText := true, laidKinds := [.data, .pinned], laidTests := true, laidLooks := .later }
def ThingCopiesCardSaid : Prop := Claim7.holds Tryd.pinned (.plain (OpenSpec.ofChange thingCopiesSpec)) thingCopiesCard

/-- THE SECOND FORM's CARD OF 'deedholdlaw21.ThingPlaces'. -/
def thingPlacesUptoCard : Claim7 := { stood := { row := thingPlacesUptoRow, standIns := [], harness := (true, "3eabfc7ec4ce52c70f28a4037542889e36783f9221e8ac1bc71760866ac72d24"), looks := true }, kinds := [], alts := [], laidByText := true, laidKinds := [.data, .pinned], laidTests := true, laidLooks := .later }
def ThingPlacesUptoCardSaid : Prop := Claim7.holds Tryd.pinned (.plain (OpenSpec.upto thingPlacesSpec)) thingPlacesUptoCard

/-- THE SECOND FORM's CARD OF 'deedholdlaw21.ThingPlays'. -/
def thingPlaysUptoCard : Claim7 := { stood := { row := thingPlaysUptoRow, standIns := [], harness := (true, "3eabfc7ec4ce52c70f28a4037542889e36783f9221e8ac1bc71760866ac72d24"), looks := true }, kinds := [], alts := [], laidByText := true, laidKinds := [.data, .pinned], laidTests := true, laidLooks := .later }
def ThingPlaysUptoCardSaid : Prop := Claim7.holds Tryd.pinned (.plain (OpenSpec.upto thingPlaysSpec)) thingPlaysUptoCard

/-- THE SECOND FORM's CARD OF 'deedholdlaw21.ThingFinds'. -/
def thingFindsUptoCard : Claim7 := { stood := { row := thingFindsUptoRow, standIns := [], harness := (true, "3eabfc7ec4ce52c70f28a4037542889e36783f9221e8ac1bc71760866ac72d24"), looks := true }, kinds := [], alts := [], laidByText := true, laidKinds := [.data, .pinned], laidTests := true, laidLooks := .later }
def ThingFindsUptoCardSaid : Prop := Claim7.holds Tryd.pinned (.plain (OpenSpec.upto thingFindsSpec)) thingFindsUptoCard

/-- THE SECOND FORM's CARD OF 'deedholdlaw21.ThingRestores'. -/
def thingRestoresUptoCard : Claim7 := { stood := { row := thingRestoresUptoRow, standIns := [], harness := (true, "3eabfc7ec4ce52c70f28a4037542889e36783f9221e8ac1bc71760866ac72d24"), looks := true }, kinds := [], alts := [], laidByText := true, laidKinds := [.data, .pinned], laidTests := true, laidLooks := .later }
def ThingRestoresUptoCardSaid : Prop := Claim7.holds Tryd.pinned (.plain (OpenSpec.upto thingRestoresSpec)) thingRestoresUptoCard

/-- THE SECOND FORM's CARD OF 'deedholdlaw21.ThingCopies'. -/
def thingCopiesUptoCard : Claim7 := { stood := { row := thingCopiesUptoRow, standIns := [], harness := (true, "3eabfc7ec4ce52c70f28a4037542889e36783f9221e8ac1bc71760866ac72d24"), looks := true }, kinds := [], alts := [], laidByText := true, laidKinds := [.data, .pinned], laidTests := true, laidLooks := .later }
def ThingCopiesUptoCardSaid : Prop := Claim7.holds Tryd.pinned (.plain (OpenSpec.upto thingCopiesSpec)) thingCopiesUptoCard
end Rows
end Go.Proofs.YtdoflhiogoefjaaDoor
