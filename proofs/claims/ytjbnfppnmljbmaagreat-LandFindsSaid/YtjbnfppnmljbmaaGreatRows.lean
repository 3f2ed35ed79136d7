/-
  No cell of these rows narrows 'for every input' (looked for: loops, veiled, ifaces, maps, wideKeys, modest, calm, conditions, laid).
  DERIVED. THE GIVEN ROWS OF THIS SEAT. 3 by the template 'for every input the law returns true; each argument reads behind the call as it read before'; 0 by the template 'total and deterministic' (their statements: YtjbnfppnmljbmaaGreatTotals.lean).
  GIVEN WITH THE SEED: the statements are not yours to turn. If you find one false, say at which input.
  Laid BY PROGRAM, IN A SANDBOX (cutbox-rows.mjs): the forced cells as the released guide's own fill.sh prints them over the translation 5d10bd41e6b26e7a… (all of the seat's roots in one cut). By AI agents, Wed Nov 11 2026. No macro, syntax, notation, axiom, sorry.
-/
import Derived.Test.YtjbnfppnmljbmaaGreatChecked
import GoSem.Claim
import GoSem.ClaimJoined
import GoSem.ClaimMapViews
import Derived.JoinedTies
import Derived.KernelRfl
namespace Go.Proofs.YtjbnfppnmljbmaaGreat
/- THE CELL 'sum', in the pinned program and in every row, IS THE sha256 OF THE DUMP (.gsa) THAT YtjbnfppnmljbmaaGreatProg.lean LOADS. Nothing in Lean hashes anything: it is a label: what it is worth is what the hold of that sum in a sandbox is worth. -/
noncomputable def Tryz.pinned : Pinned := { name := "ytjbnfppnmljbmaagreat", sum := "5d10bd41e6b26e7a27e722dc711636123f118901e99cf9bd83432497722426c0", checked := Tryz.checked }
namespace Rows
def none {H : Type} : Left H := { results := [], args := [] }

/-- 'deedholdlaw19.LandFinds': WHATEVER THE INPUT: true; the input reads as it did. -/
def landFindsSpec : ChangeSpec := { name := "landFinds", fn := fun _ => fun
  | [d1, d2, d3] => { results := [.lit (.bool true)], args := [d1, d2, d3] }
  | _ => none }
def landFindsRow : OpenClaim := { program := "ytjbnfppnmljbmaagreat", sum := "5d10bd41e6b26e7a27e722dc711636123f118901e99cf9bd83432497722426c0", func := "deedhold/deedholdlaw19.LandFinds", spec := "landFinds", unfollowed := true, recurses := true, apart := false }
def LandFindsSaid : Prop := landFindsRow.holds Tryz.pinned (OpenSpec.ofChange landFindsSpec)

/-- ITS FALSE NEIGHBOUR: 'it returns false'. Refute it at one input. -/
def landFindsWrong : ChangeSpec := { name := "landFinds", fn := fun _ => fun
  | [d1, d2, d3] => { results := [.lit (.bool false)], args := [d1, d2, d3] }
  | _ => none }
def LandFindsWrongFalsely : Prop := landFindsRow.holds Tryz.pinned (OpenSpec.ofChange landFindsWrong)

/-- 'deedholdlaw19.LandPlays': WHATEVER THE INPUT: true; the input reads as it did. -/
def landPlaysSpec : ChangeSpec := { name := "landPlays", fn := fun _ => fun
  | [d1, d2, d3] => { results := [.lit (.bool true)], args := [d1, d2, d3] }
  | _ => none }
def landPlaysRow : OpenClaim := { program := "ytjbnfppnmljbmaagreat", sum := "5d10bd41e6b26e7a27e722dc711636123f118901e99cf9bd83432497722426c0", func := "deedhold/deedholdlaw19.LandPlays", spec := "landPlays", unfollowed := true, recurses := true, apart := false }
def LandPlaysSaid : Prop := landPlaysRow.holds Tryz.pinned (OpenSpec.ofChange landPlaysSpec)

/-- ITS FALSE NEIGHBOUR: 'it returns false'. Refute it at one input. -/
def landPlaysWrong : ChangeSpec := { name := "landPlays", fn := fun _ => fun
  | [d1, d2, d3] => { results := [.lit (.bool false)], args := [d1, d2, d3] }
  | _ => none }
def LandPlaysWrongFalsely : Prop := landPlaysRow.holds Tryz.pinned (OpenSpec.ofChange landPlaysWrong)

/-- 'deedholdlaw19.LandCopies': WHATEVER THE INPUT: true; the input reads as it did. -/
def landCopiesSpec : ChangeSpec := { name := "landCopies", fn := fun _ => fun
  | [d1, d2] => { results := [.lit (.bool true)], args := [d1, d2] }
  | _ => none }
def landCopiesRow : OpenClaim := { program := "ytjbnfppnmljbmaagreat", sum := "5d10bd41e6b26e7a27e722dc711636123f118901e99cf9bd83432497722426c0", func := "deedhold/deedholdlaw19.LandCopies", spec := "landCopies", inPlace := ["maps.clone"], unfollowed := true, recurses := true, apart := false }
def LandCopiesSaid : Prop := landCopiesRow.holds Tryz.pinned (OpenSpec.ofChange landCopiesSpec)

/-- ITS FALSE NEIGHBOUR: 'it returns false'. Refute it at one input. -/
def landCopiesWrong : ChangeSpec := { name := "landCopies", fn := fun _ => fun
  | [d1, d2] => { results := [.lit (.bool false)], args := [d1, d2] }
  | _ => none }
def LandCopiesWrongFalsely : Prop := landCopiesRow.holds Tryz.pinned (OpenSpec.ofChange landCopiesWrong)

/- THE SECOND FORM. 'bulk': how many values and letters a reading holds, each counted each time it is reached (what is shared counts as often as it is met; a slice's spare places count too). A statement '..UptoSaid' is the law's where the arguments, and the package variables that the reading takes, are together of bulk at most 1048576: NARROWER than '..Said'. Prove '..Said' where nothing that the law and all that it calls make is longer than what came in: it says more and counts as full. Else prove '..UptoSaid'. A law counts once. -/
mutual
def uptoBulk {H : Type} : DataW H → Nat
  | .lit (.string bytes) => bytes.length + 1
  | .lit _ => 1
  | .nil => 1
  | .ptr d => uptoBulk d + 1
  | .slice elems spare => uptoBulkAll elems + uptoBulkAll spare + 1
  | .agg parts => uptoBulkAll parts + 1
  | .iface _ d => uptoBulk d + 1
  | .map entries => uptoBulkEntries entries + 1
  | .held _ => 1
def uptoBulkAll {H : Type} : List (DataW H) → Nat
  | [] => 0
  | d :: r => uptoBulk d + uptoBulkAll r
def uptoBulkEntries {H : Type} : List (Lit × DataW H) → Nat
  | [] => 0
  | x :: r => uptoBulkEntry x + uptoBulkEntries r
def uptoBulkEntry {H : Type} : Lit × DataW H → Nat
  | (.string bytes, d) => bytes.length + uptoBulk d + 1
  | (_, d) => uptoBulk d + 1
 end
def uptoSmall : (H : Type) → List (DataW H) → Bool := fun _ ds => decide (uptoBulkAll ds ≤ 1048576)
def OpenSpec.upto (s : _root_.Go.ChangeSpec) : _root_.Go.OpenSpec := { _root_.Go.OpenSpec.ofChange s with cond := some uptoSmall }

/-- 'deedholdlaw19.LandFinds', WHERE WHAT IT READS IS OF BULK AT MOST 1048576: true; the input reads as it did. -/
def landFindsUptoRow : OpenClaim := { program := "ytjbnfppnmljbmaagreat", sum := "5d10bd41e6b26e7a27e722dc711636123f118901e99cf9bd83432497722426c0", func := "deedhold/deedholdlaw19.LandFinds", spec := "landFinds", unfollowed := true, recurses := true, apart := false, narrowed := true }
def LandFindsUptoSaid : Prop := landFindsUptoRow.holds Tryz.pinned (OpenSpec.upto landFindsSpec)

/-- 'deedholdlaw19.LandPlays', WHERE WHAT IT READS IS OF BULK AT MOST 1048576: true; the input reads as it did. -/
def landPlaysUptoRow : OpenClaim := { program := "ytjbnfppnmljbmaagreat", sum := "5d10bd41e6b26e7a27e722dc711636123f118901e99cf9bd83432497722426c0", func := "deedhold/deedholdlaw19.LandPlays", spec := "landPlays", unfollowed := true, recurses := true, apart := false, narrowed := true }
def LandPlaysUptoSaid : Prop := landPlaysUptoRow.holds Tryz.pinned (OpenSpec.upto landPlaysSpec)

/-- 'deedholdlaw19.LandCopies', WHERE WHAT IT READS IS OF BULK AT MOST 1048576: true; the input reads as it did. -/
def landCopiesUptoRow : OpenClaim := { program := "ytjbnfppnmljbmaagreat", sum := "5d10bd41e6b26e7a27e722dc711636123f118901e99cf9bd83432497722426c0", func := "deedhold/deedholdlaw19.LandCopies", spec := "landCopies", inPlace := ["maps.clone"], unfollowed := true, recurses := true, apart := false, narrowed := true }
def LandCopiesUptoSaid : Prop := landCopiesUptoRow.holds Tryz.pinned (OpenSpec.upto landCopiesSpec)

end Rows
end Go.Proofs.YtjbnfppnmljbmaaGreat
