/-
  DERIVED. GIVEN WITH THE SEED: THE CARDS: each row of YtcjdlckfbkdibaaDoorRows.lean that lists a variable, with what it lists TIED to the program's text (the seventh form; the later family's looks); each row that meets fmt, with fmt's text TOLD by the authors' own Lean function (tested against real Go, not proved from fmt's source: count such statements apart). THE CARD IS WHAT COUNTS. Prove the row's statement (the work); the ties are given (YtcjdlckfbkdibaaDoorTie.lean); close each card by the builder's one call (the guide's Derived/Test/ToyasCard.lean, 'card_holds'). Laid BY PROGRAM, IN A SANDBOX (cutbox-door.mjs). By AI agents, Wed Nov 11 2026. No macro, syntax, notation, axiom, sorry.
-/
import Derived.Test.YtcjdlckfbkdibaaDoorRows
import GoSem.ClaimSeven
namespace Go.Proofs.YtcjdlckfbkdibaaDoor
namespace Rows

/-- THE TIED CARD OF 'deedholdlaw17.FolkMany'. -/
def folkManyCard : Claim7 := { stood := { row := folkManyRow, standIns := [], harness := (true, "95c5e0baea14d259fa08840643a51885dbcb859a6132a907c68469966bc0bf4b"), looks := false }, kinds := [], alts := [], laidByText := true, laidKinds := [.data, .pinned], laidTests := true, laidLooks := .later }
def FolkManyCardSaid : Prop := Claim7.holds Tryd.pinned (.plain (OpenSpec.ofChange folkManySpec)) folkManyCard

/-- THE TIED CARD OF 'deedholdlaw17.FolkNames'. -/
def folkNamesCard : Claim7 := { stood := { row := folkNamesRow, standIns := [], harness := (true, "95c5e0baea14d259fa08840643a51885dbcb859a6132a907c68469966bc0bf4b"), looks := false }, kinds := [], alts := [], laidByText := true, laidKinds := [.data, .pinned], laidTests := true, laidLooks := .later }
def FolkNamesCardSaid : Prop := Claim7.holds Tryd.pinned (.plain (OpenSpec.ofChange folkNamesSpec)) folkNamesCard

/-- THE TIED CARD OF 'deedholdlaw17.FolkRestores'. -/
def folkRestoresCard : Claim7 := { stood := { row := folkRestoresRow, standIns := [], harness := (true, "95c5e0baea14d259fa08840643a51885dbcb859a6132a907c68469966bc0bf4b"), looks := false }, kinds := [], alts := [], laidByText := true, laidKinds := [.data, .pinned], laidTests := true, laidLooks := .later }
def FolkRestoresCardSaid : Prop := Claim7.holds Tryd.pinned (.plain (OpenSpec.ofChange folkRestoresSpec)) folkRestoresCard

/-- THE TIED CARD OF 'deedholdlaw27.OrderBytes'. -/
def orderBytesCard : Claim7 := { stood := { row := orderBytesRow, standIns := [], harness := (true, "95c5e0baea14d259fa08840643a51885dbcb859a6132a907c68469966bc0bf4b"), looks := false }, kinds := [], alts := [], laidByText := true, laidKinds := [.data, .pinned], laidTests := true, laidLooks := .later }
def OrderBytesCardSaid : Prop := Claim7.holds Tryd.pinned (.plain (OpenSpec.ofChange orderBytesSpec)) orderBytesCard

/-- THE TIED CARD OF 'deedholdlaw27.OrderParses'. -/
def orderParsesCard : Claim7 := { stood := { row := orderParsesRow, standIns := [], harness := (true, "95c5e0baea14d259fa08840643a51885dbcb859a6132a907c68469966bc0bf4b"), looks := false }, kinds := [], alts := [], laidByText := true, laidKinds := [.data, .pinned], laidTests := true, laidLooks := .later }
def OrderParsesCardSaid : Prop := Claim7.holds Tryd.pinned (.plain (OpenSpec.ofChange orderParsesSpec)) orderParsesCard

/-- THE TIED CARD OF 'deedholdlaw27.OrderApart'. -/
def orderApartCard : Claim7 := { stood := { row := orderApartRow, standIns := [], harness := (true, "95c5e0baea14d259fa08840643a51885dbcb859a6132a907c68469966bc0bf4b"), looks := false }, kinds := [], alts := [], laidByText := true, laidKinds := [.data, .pinned], laidTests := true, laidLooks := .later }
def OrderApartCardSaid : Prop := Claim7.holds Tryd.pinned (.plain (OpenSpec.ofChange orderApartSpec)) orderApartCard

/-- THE TIED CARD OF 'deedholdlaw27.OrderFields'. -/
def orderFieldsCard : Claim7 := { stood := { row := orderFieldsRow, standIns := [], harness := (true, "95c5e0baea14d259fa08840643a51885dbcb859a6132a907c68469966bc0bf4b"), looks := false }, kinds := [], alts := [], laidByText := true, laidKinds := [.data, .pinned], laidTests := true, laidLooks := .later }
def OrderFieldsCardSaid : Prop := Claim7.holds Tryd.pinned (.plain (OpenSpec.ofChange orderFieldsSpec)) orderFieldsCard

/-- THE TIED CARD OF 'deedholdlaw27.OrderReplies'. -/
def orderRepliesCard : Claim7 := { stood := { row := orderRepliesRow, standIns := [], harness := (true, "95c5e0baea14d259fa08840643a51885dbcb859a6132a907c68469966bc0bf4b"), looks := false }, kinds := [], alts := [], laidByText := true, laidKinds := [.data, .pinned], laidTests := true, laidLooks := .later }
def OrderRepliesCardSaid : Prop := Claim7.holds Tryd.pinned (.plain (OpenSpec.ofChange orderRepliesSpec)) orderRepliesCard

/-- THE SECOND FORM's CARD OF 'deedholdlaw17.FolkMany'. -/
def folkManyUptoCard : Claim7 := { stood := { row := folkManyUptoRow, standIns := [], harness := (true, "95c5e0baea14d259fa08840643a51885dbcb859a6132a907c68469966bc0bf4b"), looks := false }, kinds := [], alts := [], laidByText := true, laidKinds := [.data, .pinned], laidTests := true, laidLooks := .later }
def FolkManyUptoCardSaid : Prop := Claim7.holds Tryd.pinned (.plain (OpenSpec.upto folkManySpec)) folkManyUptoCard

/-- THE SECOND FORM's CARD OF 'deedholdlaw17.FolkNames'. -/
def folkNamesUptoCard : Claim7 := { stood := { row := folkNamesUptoRow, standIns := [], harness := (true, "95c5e0baea14d259fa08840643a51885dbcb859a6132a907c68469966bc0bf4b"), looks := false }, kinds := [], alts := [], laidByText := true, laidKinds := [.data, .pinned], laidTests := true, laidLooks := .later }
def FolkNamesUptoCardSaid : Prop := Claim7.holds Tryd.pinned (.plain (OpenSpec.upto folkNamesSpec)) folkNamesUptoCard

/-- THE SECOND FORM's CARD OF 'deedholdlaw17.FolkRestores'. -/
def folkRestoresUptoCard : Claim7 := { stood := { row := folkRestoresUptoRow, standIns := [], harness := (true, "95c5e0baea14d259fa08840643a51885dbcb859a6132a907c68469966bc0bf4b"), looks := false }, kinds := [], alts := [], laidByText := true, laidKinds := [.data, .pinned], laidTests := true, laidLooks := .later }
def FolkRestoresUptoCardSaid : Prop := Claim7.holds Tryd.pinned (.plain (OpenSpec.upto folkRestoresSpec)) folkRestoresUptoCard

/-- THE SECOND FORM's CARD OF 'deedholdlaw27.OrderBytes'. -/
def orderBytesUptoCard : Claim7 := { stood := { row := orderBytesUptoRow, standIns := [], harness := (true, "95c5e0baea14d259fa08840643a51885dbcb859a6132a907c68469966bc0bf4b"), looks := false }, kinds := [], alts := [], laidByText := true, laidKinds := [.data, .pinned], laidTests := true, laidLooks := .later }
def OrderBytesUptoCardSaid : Prop := Claim7.holds Tryd.pinned (.plain (OpenSpec.upto orderBytesSpec)) orderBytesUptoCard

/-- THE SECOND FORM's CARD OF 'deedholdlaw27.OrderParses'. -/
def orderParsesUptoCard : Claim7 := { stood := { row := orderParsesUptoRow, standIns := [], harness := (true, "95c5e0baea14d259fa08840643a51885dbcb859a6132a907c68469966bc0bf4b"), looks := false }, kinds := [], alts := [], laidByText := true, laidKinds := [.data, .pinned], laidTests := true, laidLooks := .later }
def OrderParsesUptoCardSaid : Prop := Claim7.holds Tryd.pinned (.plain (OpenSpec.upto orderParsesSpec)) orderParsesUptoCard

/-- THE SECOND FORM's CARD OF 'deedholdlaw27.OrderApart'. -/
def orderApartUptoCard : Claim7 := { stood := { row := orderApartUptoRow, standIns := [], harness := (true, "95c5e0baea14d259fa08840643a51885dbcb859a6132a907c68469966bc0bf4b"), looks := false }, kinds := [], alts := [], laidByText := true, laidKinds := [.data, .pinned], laidTests := true, laidLooks := .later }
def OrderApartUptoCardSaid : Prop := Claim7.holds Tryd.pinned (.plain (OpenSpec.upto orderApartSpec)) orderApartUptoCard

/-- THE SECOND FORM's CARD OF 'deedholdlaw27.OrderFields'. -/
def orderFieldsUptoCard : Claim7 := { stood := { row := orderFieldsUptoRow, standIns := [], harness := (true, "95c5e0baea14d259fa08840643a51885dbcb859a6132a907c68469966bc0bf4b"), looks := false }, kinds := [], alts := [], laidByText := true, laidKinds := [.data, .pinned], laidTests := true, laidLooks := .later }
def OrderFieldsUptoCardSaid : Prop := Claim7.holds Tryd.pinned (.plain (OpenSpec.upto orderFieldsSpec)) orderFieldsUptoCard

/-- THE SECOND FORM's CARD OF 'deedholdlaw27.OrderReplies'. -/
def orderRepliesUptoCard : Claim7 := { stood := { row := orderRepliesUptoRow, standIns := [], harness := (true, "95c5e0baea14d259fa08840643a51885dbcb859a6132a907c68469966bc0bf4b"), looks := false }, kinds := [], alts := [], laidByText := true, laidKinds := [.data, .pinned], laidTests := true, laidLooks := .later }
def OrderRepliesUptoCardSaid : Prop := Claim7.holds Tryd.pinned (.plain (OpenSpec.upto orderRepliesSpec)) orderRepliesUptoCard
end Rows
end Go.Proofs.YtcjdlckfbkdibaaDoor
