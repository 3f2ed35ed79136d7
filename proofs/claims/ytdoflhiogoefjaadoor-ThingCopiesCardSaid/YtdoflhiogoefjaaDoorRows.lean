/-
  NARROWER THAN 'FOR EVERY INPUT', by the rows' own cells (each row's printed sentence says how): ThingPlaces: laid · ThingPlays: laid · ThingFinds: laid · ThingRestores: laid · ThingCopies: laid.
  DERIVED. THE GIVEN ROWS OF THIS SEAT. 5 by the template 'for every input the law returns true; each argument reads behind the call as it read before'; 0 by the template 'total and deterministic' (their statements: YtdoflhiogoefjaaDoorTotals.lean).
  GIVEN WITH THE SEED: the statements are not yours to turn. If you find one false, say at which input.
  Laid BY PROGRAM, IN A SANDBOX (cutbox-rows.mjs): the forced cells as the released guide's own fill.sh prints them over the translation c9b3708ab7f7c837… (all of the seat's roots in one cut). By AI agents, Wed Nov 11 2026. No macro, syntax, notation, axiom, sorry.
-/
import Derived.Test.YtdoflhiogoefjaaDoorChecked
import GoSem.PinnedTables
import GoSem.Claim
import GoSem.ClaimJoined
import GoSem.ClaimMapViews
import Derived.JoinedTies
import Derived.KernelRfl
namespace Go.Proofs.YtdoflhiogoefjaaDoor
/- THE CELL 'sum', in the pinned program and in every row, IS THE sha256 OF THE DUMP (.gsa) THAT YtdoflhiogoefjaaDoorProg.lean LOADS. Nothing in Lean hashes anything: it is a label: what it is worth is what the hold of that sum in a sandbox is worth. -/
noncomputable def Tryd.pinned : Pinned := { name := "ytdoflhiogoefjaadoor", sum := "c9b3708ab7f7c837008cea0c6ca64fbd2b24a83d1456db452e9e53734f2394ee", checked := Tryd.checked }
namespace Rows
def none {H : Type} : Left H := { results := [], args := [] }

/- WHAT THE LISTED PACKAGE-LEVEL VARIABLES READ AS WHEN THE CALL BEGINS. Each datum BY PROGRAM (the guide's laid-datum.mjs) off the statement by which the dump's own 'gosem.cut.vars' lays the variable. In a bare row this is a premise. The card (YtdoflhiogoefjaaDoorCards.lean) ties it to the program's text. -/
def laid_unicode_utf8_acceptRanges {H : Type} : DataW H := .agg [.agg [.lit (.int .u8 128), .lit (.int .u8 191)], .agg [.lit (.int .u8 160), .lit (.int .u8 191)], .agg [.lit (.int .u8 128), .lit (.int .u8 159)], .agg [.lit (.int .u8 144), .lit (.int .u8 191)], .agg [.lit (.int .u8 128), .lit (.int .u8 143)], .agg [.lit (.int .u8 0), .lit (.int .u8 0)], .agg [.lit (.int .u8 0), .lit (.int .u8 0)], .agg [.lit (.int .u8 0), .lit (.int .u8 0)], .agg [.lit (.int .u8 0), .lit (.int .u8 0)], .agg [.lit (.int .u8 0), .lit (.int .u8 0)], .agg [.lit (.int .u8 0), .lit (.int .u8 0)], .agg [.lit (.int .u8 0), .lit (.int .u8 0)], .agg [.lit (.int .u8 0), .lit (.int .u8 0)], .agg [.lit (.int .u8 0), .lit (.int .u8 0)], .agg [.lit (.int .u8 0), .lit (.int .u8 0)], .agg [.lit (.int .u8 0), .lit (.int .u8 0)]]
/-- One of Go's own tables, pinned by name: the form's constant. -/
def laid_unicode_utf8_first : DataW Unit := Go.Pinned.utf8First

/-- 'deedholdlaw21.ThingPlaces': WHATEVER THE INPUT: true; the input reads as it did. -/
def thingPlacesSpec : ChangeSpec := { name := "thingPlaces", fn := fun _ => fun
  | [d] => { results := [.lit (.bool true)], args := [d] }
  | _ => none }
def thingPlacesRow : OpenClaim := { program := "ytdoflhiogoefjaadoor", sum := "c9b3708ab7f7c837008cea0c6ca64fbd2b24a83d1456db452e9e53734f2394ee", func := "deedhold/deedholdlaw21.ThingPlaces", spec := "thingPlaces", inPlace := ["internal/bytealg.IndexByteString", "internal/bytealg.IndexString", "slices.overlaps[int]"], named := ["unicode/utf8.first", "unicode/utf8.acceptRanges", "internal/bytealg.MaxLen"], plainKeys := false, apart := false, laid := [("unicode/utf8.acceptRanges", laid_unicode_utf8_acceptRanges), ("unicode/utf8.first", laid_unicode_utf8_first)] }
def ThingPlacesSaid : Prop := thingPlacesRow.holds Tryd.pinned (OpenSpec.ofChange thingPlacesSpec)

/-- ITS FALSE NEIGHBOUR: 'it returns false'. Refute it at one input. -/
def thingPlacesWrong : ChangeSpec := { name := "thingPlaces", fn := fun _ => fun
  | [d] => { results := [.lit (.bool false)], args := [d] }
  | _ => none }
def ThingPlacesWrongFalsely : Prop := thingPlacesRow.holds Tryd.pinned (OpenSpec.ofChange thingPlacesWrong)

/-- 'deedholdlaw21.ThingPlays': WHATEVER THE INPUT: true; the input reads as it did. -/
def thingPlaysSpec : ChangeSpec := { name := "thingPlays", fn := fun _ => fun
  | [d] => { results := [.lit (.bool true)], args := [d] }
  | _ => none }
def thingPlaysRow : OpenClaim := { program := "ytdoflhiogoefjaadoor", sum := "c9b3708ab7f7c837008cea0c6ca64fbd2b24a83d1456db452e9e53734f2394ee", func := "deedhold/deedholdlaw21.ThingPlays", spec := "thingPlays", inPlace := ["internal/bytealg.IndexByteString", "internal/bytealg.IndexString", "slices.overlaps[int]"], unfollowed := true, recurses := true, named := ["unicode/utf8.first", "unicode/utf8.acceptRanges", "internal/bytealg.MaxLen"], plainKeys := false, apart := false, laid := [("unicode/utf8.acceptRanges", laid_unicode_utf8_acceptRanges), ("unicode/utf8.first", laid_unicode_utf8_first)] }
def ThingPlaysSaid : Prop := thingPlaysRow.holds Tryd.pinned (OpenSpec.ofChange thingPlaysSpec)

/-- ITS FALSE NEIGHBOUR: 'it returns false'. Refute it at one input. -/
def thingPlaysWrong : ChangeSpec := { name := "thingPlays", fn := fun _ => fun
  | [d] => { results := [.lit (.bool false)], args := [d] }
  | _ => none }
def ThingPlaysWrongFalsely : Prop := thingPlaysRow.holds Tryd.pinned (OpenSpec.ofChange thingPlaysWrong)

/-- 'deedholdlaw21.ThingFinds': WHATEVER THE INPUT: true; the input reads as it did. -/
def thingFindsSpec : ChangeSpec := { name := "thingFinds", fn := fun _ => fun
  | [d1, d2] => { results := [.lit (.bool true)], args := [d1, d2] }
  | _ => none }
def thingFindsRow : OpenClaim := { program := "ytdoflhiogoefjaadoor", sum := "c9b3708ab7f7c837008cea0c6ca64fbd2b24a83d1456db452e9e53734f2394ee", func := "deedhold/deedholdlaw21.ThingFinds", spec := "thingFinds", inPlace := ["internal/bytealg.IndexByteString", "internal/bytealg.IndexString", "slices.overlaps[int]"], unfollowed := true, recurses := true, named := ["unicode/utf8.first", "unicode/utf8.acceptRanges", "internal/bytealg.MaxLen"], plainKeys := false, apart := false, laid := [("unicode/utf8.acceptRanges", laid_unicode_utf8_acceptRanges), ("unicode/utf8.first", laid_unicode_utf8_first)] }
def ThingFindsSaid : Prop := thingFindsRow.holds Tryd.pinned (OpenSpec.ofChange thingFindsSpec)

/-- ITS FALSE NEIGHBOUR: 'it returns false'. Refute it at one input. -/
def thingFindsWrong : ChangeSpec := { name := "thingFinds", fn := fun _ => fun
  | [d1, d2] => { results := [.lit (.bool false)], args := [d1, d2] }
  | _ => none }
def ThingFindsWrongFalsely : Prop := thingFindsRow.holds Tryd.pinned (OpenSpec.ofChange thingFindsWrong)

/-- 'deedholdlaw21.ThingRestores': WHATEVER THE INPUT: true; the input reads as it did. -/
def thingRestoresSpec : ChangeSpec := { name := "thingRestores", fn := fun _ => fun
  | [d1, d2] => { results := [.lit (.bool true)], args := [d1, d2] }
  | _ => none }
def thingRestoresRow : OpenClaim := { program := "ytdoflhiogoefjaadoor", sum := "c9b3708ab7f7c837008cea0c6ca64fbd2b24a83d1456db452e9e53734f2394ee", func := "deedhold/deedholdlaw21.ThingRestores", spec := "thingRestores", inPlace := ["internal/bytealg.IndexByteString", "internal/bytealg.IndexString", "slices.overlaps[int]"], unfollowed := true, recurses := true, named := ["unicode/utf8.first", "unicode/utf8.acceptRanges", "internal/bytealg.MaxLen"], plainKeys := false, apart := false, laid := [("unicode/utf8.acceptRanges", laid_unicode_utf8_acceptRanges), ("unicode/utf8.first", laid_unicode_utf8_first)] }
def ThingRestoresSaid : Prop := thingRestoresRow.holds Tryd.pinned (OpenSpec.ofChange thingRestoresSpec)

/-- ITS FALSE NEIGHBOUR: 'it returns false'. Refute it at one input. -/
def thingRestoresWrong : ChangeSpec := { name := "thingRestores", fn := fun _ => fun
  | [d1, d2] => { results := [.lit (.bool false)], args := [d1, d2] }
  | _ => none }
def ThingRestoresWrongFalsely : Prop := thingRestoresRow.holds Tryd.pinned (OpenSpec.ofChange thingRestoresWrong)

/-- 'deedholdlaw21.ThingCopies': WHATEVER THE INPUT: true; the input reads as it did. -/
def thingCopiesSpec : ChangeSpec := { name := "thingCopies", fn := fun _ => fun
  | [d1, d2] => { results := [.lit (.bool true)], args := [d1, d2] }
  | _ => none }
def thingCopiesRow : OpenClaim := { program := "ytdoflhiogoefjaadoor", sum := "c9b3708ab7f7c837008cea0c6ca64fbd2b24a83d1456db452e9e53734f2394ee", func := "deedhold/deedholdlaw21.ThingCopies", spec := "thingCopies", inPlace := ["internal/bytealg.IndexByteString", "internal/bytealg.IndexString", "slices.overlaps[int]", "maps.clone"], unfollowed := true, recurses := true, named := ["unicode/utf8.first", "unicode/utf8.acceptRanges", "internal/bytealg.MaxLen"], plainKeys := false, apart := false, laid := [("unicode/utf8.acceptRanges", laid_unicode_utf8_acceptRanges), ("unicode/utf8.first", laid_unicode_utf8_first)] }
def ThingCopiesSaid : Prop := thingCopiesRow.holds Tryd.pinned (OpenSpec.ofChange thingCopiesSpec)

/-- ITS FALSE NEIGHBOUR: 'it returns false'. Refute it at one input. -/
def thingCopiesWrong : ChangeSpec := { name := "thingCopies", fn := fun _ => fun
  | [d1, d2] => { results := [.lit (.bool false)], args := [d1, d2] }
  | _ => none }
def ThingCopiesWrongFalsely : Prop := thingCopiesRow.holds Tryd.pinned (OpenSpec.ofChange thingCopiesWrong)

/- THE SECOND FORM. 'bulk': how many values and letters a reading holds, each counted each time it is reached (what is shared counts as often as it is met; a slice's spare places count too). A statement '..UptoSaid' is the law's where the arguments, and the package variables that the reading takes, are together of bulk at most 1048576: NARROWER than '..Said'. Prove '..Said' where nothing that the law and all that it calls make is longer than what came in: it says more and counts as full. Else prove '..UptoSaid'. A law counts once. -/
mutual
def uptoBulk {H : Type} : DataW H → Nat
  | .lit (.string bytes) => bytes.length + 1
  | .lit _ => 1
  | .nil => 1
  | .ptr d => uptoBulk d + 1
  | .slice elems spare => uptoBulkAll elems + uptoBulkAll spare + 1
  | .agg parts => uptoBulkAll parts + 1
  | .iface _ d => uptoBulk d + 1
  | .map entries => uptoBulkEntries entries + 1
  | .held _ => 1
def uptoBulkAll {H : Type} : List (DataW H) → Nat
  | [] => 0
  | d :: r => uptoBulk d + uptoBulkAll r
def uptoBulkEntries {H : Type} : List (Lit × DataW H) → Nat
  | [] => 0
  | x :: r => uptoBulkEntry x + uptoBulkEntries r
def uptoBulkEntry {H : Type} : Lit × DataW H → Nat
  | (.string bytes, d) => bytes.length + uptoBulk d + 1
  | (_, d) => uptoBulk d + 1
 end
def uptoSmall : (H : Type) → List (DataW H) → Bool := fun _ ds => decide (uptoBulkAll ds ≤ 1048576)
def OpenSpec.upto (s : _root_.Go.ChangeSpec) : _root_.Go.OpenSpec := { _root_.Go.OpenSpec.ofChange s with cond := some uptoSmall }

/-- 'deedholdlaw21.ThingPlaces', WHERE WHAT IT READS IS OF BULK AT MOST 1048576: true; the input reads as it did. -/
def thingPlacesUptoRow : OpenClaim := { program := "ytdoflhiogoefjaadoor", sum := "c9b3708ab7f7c837008cea0c6ca64fbd2b24a83d1456db452e9e53734f2394ee", func := "deedhold/deedholdlaw21.ThingPlaces", spec := "thingPlaces", inPlace := ["internal/bytealg.IndexByteString", "internal/bytealg.IndexString", "slices.overlaps[int]"], named := ["unicode/utf8.first", "unicode/utf8.acceptRanges", "internal/bytealg.MaxLen"], plainKeys := false, apart := false, laid := [("unicode/utf8.acceptRanges", laid_unicode_utf8_acceptRanges), ("unicode/utf8.first", laid_unicode_utf8_first)], narrowed := true }
def ThingPlacesUptoSaid : Prop := thingPlacesUptoRow.holds Tryd.pinned (OpenSpec.upto thingPlacesSpec)

/-- 'deedholdlaw21.ThingPlays', WHERE WHAT IT READS IS OF BULK AT MOST 1048576: true; the input reads as it did. -/
def thingPlaysUptoRow : OpenClaim := { program := "ytdoflhiogoefjaadoor", sum := "c9b3708ab7f7c837008cea0c6ca64fbd2b24a83d1456db452e9e53734f2394ee", func := "deedhold/deedholdlaw21.ThingPlays", spec := "thingPlays", inPlace := ["internal/bytealg.IndexByteString", "internal/bytealg.IndexString", "slices.overlaps[int]"], unfollowed := true, recurses := true, named := ["unicode/utf8.first", "unicode/utf8.acceptRanges", "internal/bytealg.MaxLen"], plainKeys := false, apart := false, laid := [("unicode/utf8.acceptRanges", laid_unicode_utf8_acceptRanges), ("unicode/utf8.first", laid_unicode_utf8_first)], narrowed := true }
def ThingPlaysUptoSaid : Prop := thingPlaysUptoRow.holds Tryd.pinned (OpenSpec.upto thingPlaysSpec)

/-- 'deedholdlaw21.ThingFinds', WHERE WHAT IT READS IS OF BULK AT MOST 1048576: true; the input reads as it did. -/
def thingFindsUptoRow : OpenClaim := { program := "ytdoflhiogoefjaadoor", sum := "c9b3708ab7f7c837008cea0c6ca64fbd2b24a83d1456db452e9e53734f2394ee", func := "deedhold/deedholdlaw21.ThingFinds", spec := "thingFinds", inPlace := ["internal/bytealg.IndexByteString", "internal/bytealg.IndexString", "slices.overlaps[int]"], unfollowed := true, recurses := true, named := ["unicode/utf8.first", "unicode/utf8.acceptRanges", "internal/bytealg.MaxLen"], plainKeys := false, apart := false, laid := [("unicode/utf8.acceptRanges", laid_unicode_utf8_acceptRanges), ("unicode/utf8.first", laid_unicode_utf8_first)], narrowed := true }
def ThingFindsUptoSaid : Prop := thingFindsUptoRow.holds Tryd.pinned (OpenSpec.upto thingFindsSpec)

/-- 'deedholdlaw21.ThingRestores', WHERE WHAT IT READS IS OF BULK AT MOST 1048576: true; the input reads as it did. -/
def thingRestoresUptoRow : OpenClaim := { program := "ytdoflhiogoefjaadoor", sum := "c9b3708ab7f7c837008cea0c6ca64fbd2b24a83d1456db452e9e53734f2394ee", func := "deedhold/deedholdlaw21.ThingRestores", spec := "thingRestores", inPlace := ["internal/bytealg.IndexByteString", "internal/bytealg.IndexString", "slices.overlaps[int]"], unfollowed := true, recurses := true, named := ["unicode/utf8.first", "unicode/utf8.acceptRanges", "internal/bytealg.MaxLen"], plainKeys := false, apart := false, laid := [("unicode/utf8.acceptRanges", laid_unicode_utf8_acceptRanges), ("unicode/utf8.first", laid_unicode_utf8_first)], narrowed := true }
def ThingRestoresUptoSaid : Prop := thingRestoresUptoRow.holds Tryd.pinned (OpenSpec.upto thingRestoresSpec)

/-- 'deedholdlaw21.ThingCopies', WHERE WHAT IT READS IS OF BULK AT MOST 1048576: true; the input reads as it did. -/
def thingCopiesUptoRow : OpenClaim := { program := "ytdoflhiogoefjaadoor", sum := "c9b3708ab7f7c837008cea0c6ca64fbd2b24a83d1456db452e9e53734f2394ee", func := "deedhold/deedholdlaw21.ThingCopies", spec := "thingCopies", inPlace := ["internal/bytealg.IndexByteString", "internal/bytealg.IndexString", "slices.overlaps[int]", "maps.clone"], unfollowed := true, recurses := true, named := ["unicode/utf8.first", "unicode/utf8.acceptRanges", "internal/bytealg.MaxLen"], plainKeys := false, apart := false, laid := [("unicode/utf8.acceptRanges", laid_unicode_utf8_acceptRanges), ("unicode/utf8.first", laid_unicode_utf8_first)], narrowed := true }
def ThingCopiesUptoSaid : Prop := thingCopiesUptoRow.holds Tryd.pinned (OpenSpec.upto thingCopiesSpec)

end Rows
end Go.Proofs.YtdoflhiogoefjaaDoor
