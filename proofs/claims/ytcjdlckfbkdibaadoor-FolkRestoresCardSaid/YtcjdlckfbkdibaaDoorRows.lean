/-
  NARROWER THAN 'FOR EVERY INPUT', by the rows' own cells (each row's printed sentence says how): FolkMany: laid · FolkNames: laid · FolkRestores: laid · OrderBytes: laid · OrderParses: laid · OrderApart: laid · OrderFields: laid · OrderReplies: laid.
  DERIVED. THE GIVEN ROWS OF THIS SEAT. 8 by the template 'for every input the law returns true; each argument reads behind the call as it read before'; 0 by the template 'total and deterministic' (their statements: YtcjdlckfbkdibaaDoorTotals.lean).
  GIVEN WITH THE SEED: the statements are not yours to turn. If you find one false, say at which input.
  Laid BY PROGRAM, IN A SANDBOX (cutbox-rows.mjs): the forced cells as the released guide's own fill.sh prints them over the translation 7b5c19fef25bbe74… (all of the seat's roots in one cut). By AI agents, Wed Nov 11 2026. No macro, syntax, notation, axiom, sorry.
-/
import Derived.Test.YtcjdlckfbkdibaaDoorChecked
import GoSem.PinnedTables
import GoSem.Claim
import GoSem.ClaimJoined
import GoSem.ClaimMapViews
import Derived.JoinedTies
import Derived.KernelRfl
namespace Go.Proofs.YtcjdlckfbkdibaaDoor
/- THE CELL 'sum', in the pinned program and in every row, IS THE sha256 OF THE DUMP (.gsa) THAT YtcjdlckfbkdibaaDoorProg.lean LOADS. Nothing in Lean hashes anything: it is a label: what it is worth is what the hold of that sum in a sandbox is worth. -/
noncomputable def Tryd.pinned : Pinned := { name := "ytcjdlckfbkdibaadoor", sum := "7b5c19fef25bbe7479812168e33f768742c0922089d1624a85ab9f7aa4ad0fb7", checked := Tryd.checked }
namespace Rows
def none {H : Type} : Left H := { results := [], args := [] }

/- WHAT THE LISTED PACKAGE-LEVEL VARIABLES READ AS WHEN THE CALL BEGINS. Each datum BY PROGRAM (the guide's laid-datum.mjs) off the statement by which the dump's own 'gosem.cut.vars' lays the variable. In a bare row this is a premise. The card (YtcjdlckfbkdibaaDoorCards.lean) ties it to the program's text. -/
def laid_unicode_utf8_acceptRanges {H : Type} : DataW H := .agg [.agg [.lit (.int .u8 128), .lit (.int .u8 191)], .agg [.lit (.int .u8 160), .lit (.int .u8 191)], .agg [.lit (.int .u8 128), .lit (.int .u8 159)], .agg [.lit (.int .u8 144), .lit (.int .u8 191)], .agg [.lit (.int .u8 128), .lit (.int .u8 143)], .agg [.lit (.int .u8 0), .lit (.int .u8 0)], .agg [.lit (.int .u8 0), .lit (.int .u8 0)], .agg [.lit (.int .u8 0), .lit (.int .u8 0)], .agg [.lit (.int .u8 0), .lit (.int .u8 0)], .agg [.lit (.int .u8 0), .lit (.int .u8 0)], .agg [.lit (.int .u8 0), .lit (.int .u8 0)], .agg [.lit (.int .u8 0), .lit (.int .u8 0)], .agg [.lit (.int .u8 0), .lit (.int .u8 0)], .agg [.lit (.int .u8 0), .lit (.int .u8 0)], .agg [.lit (.int .u8 0), .lit (.int .u8 0)], .agg [.lit (.int .u8 0), .lit (.int .u8 0)]]
/-- One of Go's own tables, pinned by name: the form's constant. -/
def laid_unicode_utf8_first : DataW Unit := Go.Pinned.utf8First

/-- 'deedholdlaw17.FolkMany': WHATEVER THE INPUT: true; the input reads as it did. -/
def folkManySpec : ChangeSpec := { name := "folkMany", fn := fun _ => fun
  | [d] => { results := [.lit (.bool true)], args := [d] }
  | _ => none }
def folkManyRow : OpenClaim := { program := "ytcjdlckfbkdibaadoor", sum := "7b5c19fef25bbe7479812168e33f768742c0922089d1624a85ab9f7aa4ad0fb7", func := "deedhold/deedholdlaw17.FolkMany", spec := "folkMany", inPlace := ["internal/bytealg.IndexByteString", "internal/bytealg.IndexString"], named := ["unicode/utf8.first", "unicode/utf8.acceptRanges", "internal/bytealg.MaxLen"], apart := false, laid := [("unicode/utf8.acceptRanges", laid_unicode_utf8_acceptRanges), ("unicode/utf8.first", laid_unicode_utf8_first)] }
def FolkManySaid : Prop := folkManyRow.holds Tryd.pinned (OpenSpec.ofChange folkManySpec)

/-- ITS FALSE NEIGHBOUR: 'it returns false'. Refute it at one input. -/
def folkManyWrong : ChangeSpec := { name := "folkMany", fn := fun _ => fun
  | [d] => { results := [.lit (.bool false)], args := [d] }
  | _ => none }
def FolkManyWrongFalsely : Prop := folkManyRow.holds Tryd.pinned (OpenSpec.ofChange folkManyWrong)

/-- 'deedholdlaw17.FolkNames': WHATEVER THE INPUT: true; the input reads as it did. -/
def folkNamesSpec : ChangeSpec := { name := "folkNames", fn := fun _ => fun
  | [d1, d2] => { results := [.lit (.bool true)], args := [d1, d2] }
  | _ => none }
def folkNamesRow : OpenClaim := { program := "ytcjdlckfbkdibaadoor", sum := "7b5c19fef25bbe7479812168e33f768742c0922089d1624a85ab9f7aa4ad0fb7", func := "deedhold/deedholdlaw17.FolkNames", spec := "folkNames", inPlace := ["internal/bytealg.IndexByteString", "internal/bytealg.IndexString"], named := ["unicode/utf8.first", "unicode/utf8.acceptRanges", "internal/bytealg.MaxLen"], apart := false, laid := [("unicode/utf8.acceptRanges", laid_unicode_utf8_acceptRanges), ("unicode/utf8.first", laid_unicode_utf8_first)] }
def FolkNamesSaid : Prop := folkNamesRow.holds Tryd.pinned (OpenSpec.ofChange folkNamesSpec)

/-- ITS FALSE NEIGHBOUR: 'it returns false'. Refute it at one input. -/
def folkNamesWrong : ChangeSpec := { name := "folkNames", fn := fun _ => fun
  | [d1, d2] => { results := [.lit (.bool false)], args := [d1, d2] }
  | _ => none }
def FolkNamesWrongFalsely : Prop := folkNamesRow.holds Tryd.pinned (OpenSpec.ofChange folkNamesWrong)

/-- 'deedholdlaw17.FolkRestores': WHATEVER THE INPUT: true; the input reads as it did. -/
def folkRestoresSpec : ChangeSpec := { name := "folkRestores", fn := fun _ => fun
  | [d1, d2, d3] => { results := [.lit (.bool true)], args := [d1, d2, d3] }
  | _ => none }
def folkRestoresRow : OpenClaim := { program := "ytcjdlckfbkdibaadoor", sum := "7b5c19fef25bbe7479812168e33f768742c0922089d1624a85ab9f7aa4ad0fb7", func := "deedhold/deedholdlaw17.FolkRestores", spec := "folkRestores", inPlace := ["internal/bytealg.IndexByteString", "internal/bytealg.IndexString"], named := ["unicode/utf8.first", "unicode/utf8.acceptRanges", "internal/bytealg.MaxLen"], apart := false, laid := [("unicode/utf8.acceptRanges", laid_unicode_utf8_acceptRanges), ("unicode/utf8.first", laid_unicode_utf8_first)] }
def FolkRestoresSaid : Prop := folkRestoresRow.holds Tryd.pinned (OpenSpec.ofChange folkRestoresSpec)

/-- ITS FALSE NEIGHBOUR: 'it returns false'. Refute it at one input. -/
def folkRestoresWrong : ChangeSpec := { name := "folkRestores", fn := fun _ => fun
  | [d1, d2, d3] => { results := [.lit (.bool false)], args := [d1, d2, d3] }
  | _ => none }
def FolkRestoresWrongFalsely : Prop := folkRestoresRow.holds Tryd.pinned (OpenSpec.ofChange folkRestoresWrong)

/-- 'deedholdlaw27.OrderBytes': WHATEVER THE INPUT: true; the input reads as it did. -/
def orderBytesSpec : ChangeSpec := { name := "orderBytes", fn := fun _ => fun
  | [d] => { results := [.lit (.bool true)], args := [d] }
  | _ => none }
def orderBytesRow : OpenClaim := { program := "ytcjdlckfbkdibaadoor", sum := "7b5c19fef25bbe7479812168e33f768742c0922089d1624a85ab9f7aa4ad0fb7", func := "deedhold/deedholdlaw27.OrderBytes", spec := "orderBytes", inPlace := ["internal/bytealg.IndexByteString", "internal/bytealg.IndexString"], named := ["unicode/utf8.first", "unicode/utf8.acceptRanges", "internal/bytealg.MaxLen"], apart := false, laid := [("unicode/utf8.acceptRanges", laid_unicode_utf8_acceptRanges), ("unicode/utf8.first", laid_unicode_utf8_first)] }
def OrderBytesSaid : Prop := orderBytesRow.holds Tryd.pinned (OpenSpec.ofChange orderBytesSpec)

/-- ITS FALSE NEIGHBOUR: 'it returns false'. Refute it at one input. -/
def orderBytesWrong : ChangeSpec := { name := "orderBytes", fn := fun _ => fun
  | [d] => { results := [.lit (.bool false)], args := [d] }
  | _ => none }
def OrderBytesWrongFalsely : Prop := orderBytesRow.holds Tryd.pinned (OpenSpec.ofChange orderBytesWrong)

/-- 'deedholdlaw27.OrderParses': WHATEVER THE INPUT: true; the input reads as it did. -/
def orderParsesSpec : ChangeSpec := { name := "orderParses", fn := fun _ => fun
  | [d] => { results := [.lit (.bool true)], args := [d] }
  | _ => none }
def orderParsesRow : OpenClaim := { program := "ytcjdlckfbkdibaadoor", sum := "7b5c19fef25bbe7479812168e33f768742c0922089d1624a85ab9f7aa4ad0fb7", func := "deedhold/deedholdlaw27.OrderParses", spec := "orderParses", inPlace := ["internal/bytealg.IndexByteString", "internal/bytealg.IndexString"], named := ["unicode/utf8.first", "unicode/utf8.acceptRanges", "internal/bytealg.MaxLen"], apart := false, laid := [("unicode/utf8.acceptRanges", laid_unicode_utf8_acceptRanges), ("unicode/utf8.first", laid_unicode_utf8_first)] }
def OrderParsesSaid : Prop := orderParsesRow.holds Tryd.pinned (OpenSpec.ofChange orderParsesSpec)

/-- ITS FALSE NEIGHBOUR: 'it returns false'. Refute it at one input. -/
def orderParsesWrong : ChangeSpec := { name := "orderParses", fn := fun _ => fun
  | [d] => { results := [.lit (.bool false)], args := [d] }
  | _ => none }
def OrderParsesWrongFalsely : Prop := orderParsesRow.holds Tryd.pinned (OpenSpec.ofChange orderParsesWrong)

/-- 'deedholdlaw27.OrderApart': WHATEVER THE INPUT: true; the input reads as it did. -/
def orderApartSpec : ChangeSpec := { name := "orderApart", fn := fun _ => fun
  | [d1, d2] => { results := [.lit (.bool true)], args := [d1, d2] }
  | _ => none }
def orderApartRow : OpenClaim := { program := "ytcjdlckfbkdibaadoor", sum := "7b5c19fef25bbe7479812168e33f768742c0922089d1624a85ab9f7aa4ad0fb7", func := "deedhold/deedholdlaw27.OrderApart", spec := "orderApart", inPlace := ["internal/bytealg.IndexByteString", "internal/bytealg.IndexString"], named := ["unicode/utf8.first", "unicode/utf8.acceptRanges", "internal/bytealg.MaxLen"], apart := false, laid := [("unicode/utf8.acceptRanges", laid_unicode_utf8_acceptRanges), ("unicode/utf8.first", laid_unicode_utf8_first)] }
def OrderApartSaid : Prop := orderApartRow.holds Tryd.pinned (OpenSpec.ofChange orderApartSpec)

/-- ITS FALSE NEIGHBOUR: 'it returns false'. Refute it at one input. -/
def orderApartWrong : ChangeSpec := { name := "orderApart", fn := fun _ => fun
  | [d1, d2] => { results := [.lit (.bool false)], args := [d1, d2] }
  | _ => none }
def OrderApartWrongFalsely : Prop := orderApartRow.holds Tryd.pinned (OpenSpec.ofChange orderApartWrong)

/-- 'deedholdlaw27.OrderFields': WHATEVER THE INPUT: true; the input reads as it did. -/
def orderFieldsSpec : ChangeSpec := { name := "orderFields", fn := fun _ => fun
  | [d] => { results := [.lit (.bool true)], args := [d] }
  | _ => none }
def orderFieldsRow : OpenClaim := { program := "ytcjdlckfbkdibaadoor", sum := "7b5c19fef25bbe7479812168e33f768742c0922089d1624a85ab9f7aa4ad0fb7", func := "deedhold/deedholdlaw27.OrderFields", spec := "orderFields", inPlace := ["internal/bytealg.IndexByteString", "internal/bytealg.IndexString"], named := ["unicode/utf8.first", "unicode/utf8.acceptRanges", "internal/bytealg.MaxLen"], apart := false, laid := [("unicode/utf8.acceptRanges", laid_unicode_utf8_acceptRanges), ("unicode/utf8.first", laid_unicode_utf8_first)] }
def OrderFieldsSaid : Prop := orderFieldsRow.holds Tryd.pinned (OpenSpec.ofChange orderFieldsSpec)

/-- ITS FALSE NEIGHBOUR: 'it returns false'. Refute it at one input. -/
def orderFieldsWrong : ChangeSpec := { name := "orderFields", fn := fun _ => fun
  | [d] => { results := [.lit (.bool false)], args := [d] }
  | _ => none }
def OrderFieldsWrongFalsely : Prop := orderFieldsRow.holds Tryd.pinned (OpenSpec.ofChange orderFieldsWrong)

/-- 'deedholdlaw27.OrderReplies': WHATEVER THE INPUT: true; the input reads as it did. -/
def orderRepliesSpec : ChangeSpec := { name := "orderReplies", fn := fun _ => fun
  | [d1, d2] => { results := [.lit (.bool true)], args := [d1, d2] }
  | _ => none }
def orderRepliesRow : OpenClaim := { program := "ytcjdlckfbkdibaadoor", sum := "7b5c19fef25bbe7479812168e33f768742c0922089d1624a85ab9f7aa4ad0fb7", func := "deedhold/deedholdlaw27.OrderReplies", spec := "orderReplies", inPlace := ["internal/bytealg.IndexByteString", "internal/bytealg.IndexString"], named := ["unicode/utf8.first", "unicode/utf8.acceptRanges", "internal/bytealg.MaxLen"], apart := false, laid := [("unicode/utf8.acceptRanges", laid_unicode_utf8_acceptRanges), ("unicode/utf8.first", laid_unicode_utf8_first)] }
def OrderRepliesSaid : Prop := orderRepliesRow.holds Tryd.pinned (OpenSpec.ofChange orderRepliesSpec)

/-- ITS FALSE NEIGHBOUR: 'it returns false'. Refute it at one input. -/
def orderRepliesWrong : ChangeSpec := { name := "orderReplies", fn := fun _ => fun
  | [d1, d2] => { results := [.lit (.bool false)], args := [d1, d2] }
  | _ => none }
def OrderRepliesWrongFalsely : Prop := orderRepliesRow.holds Tryd.pinned (OpenSpec.ofChange orderRepliesWrong)

/- THE SECOND FORM. 'bulk': how many values and letters a reading holds, each counted each time it is reached (what is shared counts as often as it is met; a slice's spare places count too). A statement '..UptoSaid' is the law's where the arguments, and the package variables that the reading takes, are together of bulk at most 1048576: NARROWER than '..Said'. Prove '..Said' where nothing that the law and all that it calls make is longer than what came in: it says more and counts as full. Else prove '..UptoSaid'. A law counts once. -/
mutual
def uptoBulk {H : Type} : DataW H → Nat
  | .lit (.string bytes) => bytes.length + 1
  | .lit _ => 1
  | .nil => 1
  | .ptr d => uptoBulk d + 1
  | .slice elems spare => uptoBulkAll elems + uptoBulkAll spare + 1
  | .agg parts => uptoBulkAll parts + 1
  | .iface _ d => uptoBulk d + 1
  | .map entries => uptoBulkEntries entries + 1
  | .held _ => 1
def uptoBulkAll {H : Type} : List (DataW H) → Nat
  | [] => 0
  | d :: r => uptoBulk d + uptoBulkAll r
def uptoBulkEntries {H : Type} : List (Lit × DataW H) → Nat
  | [] => 0
  | x :: r => uptoBulkEntry x + uptoBulkEntries r
def uptoBulkEntry {H : Type} : Lit × DataW H → Nat
  | (.string bytes, d) => bytes.length + uptoBulk d + 1
  | (_, d) => uptoBulk d + 1
 end
def uptoSmall : (H : Type) → List (DataW H) → Bool := fun _ ds => decide (uptoBulkAll ds ≤ 1048576)
def OpenSpec.upto (s : _root_.Go.ChangeSpec) : _root_.Go.OpenSpec := { _root_.Go.OpenSpec.ofChange s with cond := some uptoSmall }

/-- 'deedholdlaw17.FolkMany', WHERE WHAT IT READS IS OF BULK AT MOST 1048576: true; the input reads as it did. -/
def folkManyUptoRow : OpenClaim := { program := "ytcjdlckfbkdibaadoor", sum := "7b5c19fef25bbe7479812168e33f768742c0922089d1624a85ab9f7aa4ad0fb7", func := "deedhold/deedholdlaw17.FolkMany", spec := "folkMany", inPlace := ["internal/bytealg.IndexByteString", "internal/bytealg.IndexString"], named := ["unicode/utf8.first", "unicode/utf8.acceptRanges", "internal/bytealg.MaxLen"], apart := false, laid := [("unicode/utf8.acceptRanges", laid_unicode_utf8_acceptRanges), ("unicode/utf8.first", laid_unicode_utf8_first)], narrowed := true }
def FolkManyUptoSaid : Prop := folkManyUptoRow.holds Tryd.pinned (OpenSpec.upto folkManySpec)

/-- 'deedholdlaw17.FolkNames', WHERE WHAT IT READS IS OF BULK AT MOST 1048576: true; the input reads as it did. -/
def folkNamesUptoRow : OpenClaim := { program := "ytcjdlckfbkdibaadoor", sum := "7b5c19fef25bbe7479812168e33f768742c0922089d1624a85ab9f7aa4ad0fb7", func := "deedhold/deedholdlaw17.FolkNames", spec := "folkNames", inPlace := ["internal/bytealg.IndexByteString", "internal/bytealg.IndexString"], named := ["unicode/utf8.first", "unicode/utf8.acceptRanges", "internal/bytealg.MaxLen"], apart := false, laid := [("unicode/utf8.acceptRanges", laid_unicode_utf8_acceptRanges), ("unicode/utf8.first", laid_unicode_utf8_first)], narrowed := true }
def FolkNamesUptoSaid : Prop := folkNamesUptoRow.holds Tryd.pinned (OpenSpec.upto folkNamesSpec)

/-- 'deedholdlaw17.FolkRestores', WHERE WHAT IT READS IS OF BULK AT MOST 1048576: true; the input reads as it did. -/
def folkRestoresUptoRow : OpenClaim := { program := "ytcjdlckfbkdibaadoor", sum := "7b5c19fef25bbe7479812168e33f768742c0922089d1624a85ab9f7aa4ad0fb7", func := "deedhold/deedholdlaw17.FolkRestores", spec := "folkRestores", inPlace := ["internal/bytealg.IndexByteString", "internal/bytealg.IndexString"], named := ["unicode/utf8.first", "unicode/utf8.acceptRanges", "internal/bytealg.MaxLen"], apart := false, laid := [("unicode/utf8.acceptRanges", laid_unicode_utf8_acceptRanges), ("unicode/utf8.first", laid_unicode_utf8_first)], narrowed := true }
def FolkRestoresUptoSaid : Prop := folkRestoresUptoRow.holds Tryd.pinned (OpenSpec.upto folkRestoresSpec)

/-- 'deedholdlaw27.OrderBytes', WHERE WHAT IT READS IS OF BULK AT MOST 1048576: true; the input reads as it did. -/
def orderBytesUptoRow : OpenClaim := { program := "ytcjdlckfbkdibaadoor", sum := "7b5c19fef25bbe7479812168e33f768742c0922089d1624a85ab9f7aa4ad0fb7", func := "deedhold/deedholdlaw27.OrderBytes", spec := "orderBytes", inPlace := ["internal/bytealg.IndexByteString", "internal/bytealg.IndexString"], named := ["unicode/utf8.first", "unicode/utf8.acceptRanges", "internal/bytealg.MaxLen"], apart := false, laid := [("unicode/utf8.acceptRanges", laid_unicode_utf8_acceptRanges), ("unicode/utf8.first", laid_unicode_utf8_first)], narrowed := true }
def OrderBytesUptoSaid : Prop := orderBytesUptoRow.holds Tryd.pinned (OpenSpec.upto orderBytesSpec)

/-- 'deedholdlaw27.OrderParses', WHERE WHAT IT READS IS OF BULK AT MOST 1048576: true; the input reads as it did. -/
def orderParsesUptoRow : OpenClaim := { program := "ytcjdlckfbkdibaadoor", sum := "7b5c19fef25bbe7479812168e33f768742c0922089d1624a85ab9f7aa4ad0fb7", func := "deedhold/deedholdlaw27.OrderParses", spec := "orderParses", inPlace := ["internal/bytealg.IndexByteString", "internal/bytealg.IndexString"], named := ["unicode/utf8.first", "unicode/utf8.acceptRanges", "internal/bytealg.MaxLen"], apart := false, laid := [("unicode/utf8.acceptRanges", laid_unicode_utf8_acceptRanges), ("unicode/utf8.first", laid_unicode_utf8_first)], narrowed := true }
def OrderParsesUptoSaid : Prop := orderParsesUptoRow.holds Tryd.pinned (OpenSpec.upto orderParsesSpec)

/-- 'deedholdlaw27.OrderApart', WHERE WHAT IT READS IS OF BULK AT MOST 1048576: true; the input reads as it did. -/
def orderApartUptoRow : OpenClaim := { program := "ytcjdlckfbkdibaadoor", sum := "7b5c19fef25bbe7479812168e33f768742c0922089d1624a85ab9f7aa4ad0fb7", func := "deedhold/deedholdlaw27.OrderApart", spec := "orderApart", inPlace := ["internal/bytealg.IndexByteString", "internal/bytealg.IndexString"], named := ["unicode/utf8.first", "unicode/utf8.acceptRanges", "internal/bytealg.MaxLen"], apart := false, laid := [("unicode/utf8.acceptRanges", laid_unicode_utf8_acceptRanges), ("unicode/utf8.first", laid_unicode_utf8_first)], narrowed := true }
def OrderApartUptoSaid : Prop := orderApartUptoRow.holds Tryd.pinned (OpenSpec.upto orderApartSpec)

/-- 'deedholdlaw27.OrderFields', WHERE WHAT IT READS IS OF BULK AT MOST 1048576: true; the input reads as it did. -/
def orderFieldsUptoRow : OpenClaim := { program := "ytcjdlckfbkdibaadoor", sum := "7b5c19fef25bbe7479812168e33f768742c0922089d1624a85ab9f7aa4ad0fb7", func := "deedhold/deedholdlaw27.OrderFields", spec := "orderFields", inPlace := ["internal/bytealg.IndexByteString", "internal/bytealg.IndexString"], named := ["unicode/utf8.first", "unicode/utf8.acceptRanges", "internal/bytealg.MaxLen"], apart := false, laid := [("unicode/utf8.acceptRanges", laid_unicode_utf8_acceptRanges), ("unicode/utf8.first", laid_unicode_utf8_first)], narrowed := true }
def OrderFieldsUptoSaid : Prop := orderFieldsUptoRow.holds Tryd.pinned (OpenSpec.upto orderFieldsSpec)

/-- 'deedholdlaw27.OrderReplies', WHERE WHAT IT READS IS OF BULK AT MOST 1048576: true; the input reads as it did. -/
def orderRepliesUptoRow : OpenClaim := { program := "ytcjdlckfbkdibaadoor", sum := "7b5c19fef25bbe7479812168e33f768742c0922089d1624a85ab9f7aa4ad0fb7", func := "deedhold/deedholdlaw27.OrderReplies", spec := "orderReplies", inPlace := ["internal/bytealg.IndexByteString", "internal/bytealg.IndexString"], named := ["unicode/utf8.first", "unicode/utf8.acceptRanges", "internal/bytealg.MaxLen"], apart := false, laid := [("unicode/utf8.acceptRanges", laid_unicode_utf8_acceptRanges), ("unicode/utf8.first", laid_unicode_utf8_first)], narrowed := true }
def OrderRepliesUptoSaid : Prop := orderRepliesUptoRow.holds Tryd.pinned (OpenSpec.upto orderRepliesSpec)

end Rows
end Go.Proofs.YtcjdlckfbkdibaaDoor
