/-
  No cell of these rows narrows 'for every input' (looked for: loops, veiled, ifaces, maps, wideKeys, modest, calm, conditions, laid).
  DERIVED. THE GIVEN ROWS OF THIS SEAT. 4 by the template 'for every input the law returns true; each argument reads behind the call as it read before'; 0 by the template 'total and deterministic' (their statements: YtajfjgekcjkedaaTotals.lean).
  GIVEN WITH THE SEED: the statements are not yours to turn. If you find one false, say at which input.
  Laid BY PROGRAM, IN A SANDBOX (cutbox-rows.mjs): the forced cells as the released guide's own fill.sh prints them over the translation 0630fb655fe18fef… (all of the seat's roots in one cut). By AI agents, Wed Nov 11 2026. No macro, syntax, notation, axiom, sorry.
-/
import Derived.Test.YtajfjgekcjkedaaChecked
import GoSem.Claim
import GoSem.ClaimJoined
import GoSem.ClaimMapViews
import Derived.JoinedTies
import Derived.KernelRfl
namespace Go.Proofs.Ytajfjgekcjkedaa
/- THE CELL 'sum', in the pinned program and in every row, IS THE sha256 OF THE DUMP (.gsa) THAT YtajfjgekcjkedaaProg.lean LOADS. Nothing in Lean hashes anything: it is a label: what it is worth is what the hold of that sum in a sandbox is worth. -/
noncomputable def Try.pinned : Pinned := { name := "ytajfjgekcjkedaa", sum := "0630fb655fe18fefc65768e12e139269616f7296760ef2ccd6df104db0d12e18", checked := Try.checked }
namespace Rows
def none {H : Type} : Left H := { results := [], args := [] }

/-- 'deedholdlaw23.StallTills': WHATEVER THE INPUT: true; the input reads as it did. -/
def stallTillsSpec : ChangeSpec := { name := "stallTills", fn := fun _ => fun
  | [d] => { results := [.lit (.bool true)], args := [d] }
  | _ => none }
def stallTillsRow : OpenClaim := { program := "ytajfjgekcjkedaa", sum := "0630fb655fe18fefc65768e12e139269616f7296760ef2ccd6df104db0d12e18", func := "deedhold/deedholdlaw23.StallTills", spec := "stallTills", inPlace := ["slices.overlaps[deedhold/stall.Good]"], unfollowed := true, recurses := true, apart := false }
def StallTillsSaid : Prop := stallTillsRow.holds Try.pinned (OpenSpec.ofChange stallTillsSpec)

/-- ITS FALSE NEIGHBOUR: 'it returns false'. Refute it at one input. -/
def stallTillsWrong : ChangeSpec := { name := "stallTills", fn := fun _ => fun
  | [d] => { results := [.lit (.bool false)], args := [d] }
  | _ => none }
def StallTillsWrongFalsely : Prop := stallTillsRow.holds Try.pinned (OpenSpec.ofChange stallTillsWrong)

/-- 'deedholdlaw23.StallRestores': WHATEVER THE INPUT: true; the input reads as it did. -/
def stallRestoresSpec : ChangeSpec := { name := "stallRestores", fn := fun _ => fun
  | [d] => { results := [.lit (.bool true)], args := [d] }
  | _ => none }
def stallRestoresRow : OpenClaim := { program := "ytajfjgekcjkedaa", sum := "0630fb655fe18fefc65768e12e139269616f7296760ef2ccd6df104db0d12e18", func := "deedhold/deedholdlaw23.StallRestores", spec := "stallRestores", inPlace := ["slices.overlaps[deedhold/stall.Good]"], unfollowed := true, recurses := true, apart := false }
def StallRestoresSaid : Prop := stallRestoresRow.holds Try.pinned (OpenSpec.ofChange stallRestoresSpec)

/-- ITS FALSE NEIGHBOUR: 'it returns false'. Refute it at one input. -/
def stallRestoresWrong : ChangeSpec := { name := "stallRestores", fn := fun _ => fun
  | [d] => { results := [.lit (.bool false)], args := [d] }
  | _ => none }
def StallRestoresWrongFalsely : Prop := stallRestoresRow.holds Try.pinned (OpenSpec.ofChange stallRestoresWrong)

/-- 'deedholdlaw23.StallPlays': WHATEVER THE INPUT: true; the input reads as it did. -/
def stallPlaysSpec : ChangeSpec := { name := "stallPlays", fn := fun _ => fun
  | [d] => { results := [.lit (.bool true)], args := [d] }
  | _ => none }
def stallPlaysRow : OpenClaim := { program := "ytajfjgekcjkedaa", sum := "0630fb655fe18fefc65768e12e139269616f7296760ef2ccd6df104db0d12e18", func := "deedhold/deedholdlaw23.StallPlays", spec := "stallPlays", inPlace := ["slices.overlaps[deedhold/stall.Good]"], unfollowed := true, recurses := true, apart := false }
def StallPlaysSaid : Prop := stallPlaysRow.holds Try.pinned (OpenSpec.ofChange stallPlaysSpec)

/-- ITS FALSE NEIGHBOUR: 'it returns false'. Refute it at one input. -/
def stallPlaysWrong : ChangeSpec := { name := "stallPlays", fn := fun _ => fun
  | [d] => { results := [.lit (.bool false)], args := [d] }
  | _ => none }
def StallPlaysWrongFalsely : Prop := stallPlaysRow.holds Try.pinned (OpenSpec.ofChange stallPlaysWrong)

/-- 'deedholdlaw23.StallCopies': WHATEVER THE INPUT: true; the input reads as it did. -/
def stallCopiesSpec : ChangeSpec := { name := "stallCopies", fn := fun _ => fun
  | [d1, d2] => { results := [.lit (.bool true)], args := [d1, d2] }
  | _ => none }
def stallCopiesRow : OpenClaim := { program := "ytajfjgekcjkedaa", sum := "0630fb655fe18fefc65768e12e139269616f7296760ef2ccd6df104db0d12e18", func := "deedhold/deedholdlaw23.StallCopies", spec := "stallCopies", inPlace := ["slices.overlaps[deedhold/stall.Good]", "maps.clone"], unfollowed := true, recurses := true, apart := false }
def StallCopiesSaid : Prop := stallCopiesRow.holds Try.pinned (OpenSpec.ofChange stallCopiesSpec)

/-- ITS FALSE NEIGHBOUR: 'it returns false'. Refute it at one input. -/
def stallCopiesWrong : ChangeSpec := { name := "stallCopies", fn := fun _ => fun
  | [d1, d2] => { results := [.lit (.bool false)], args := [d1, d2] }
  | _ => none }
def StallCopiesWrongFalsely : Prop := stallCopiesRow.holds Try.pinned (OpenSpec.ofChange stallCopiesWrong)

/- THE SECOND FORM. 'bulk': how many values and letters a reading holds, each counted each time it is reached (what is shared counts as often as it is met; a slice's spare places count too). A statement '..UptoSaid' is the law's where the arguments, and the package variables that the reading takes, are together of bulk at most 1048576: NARROWER than '..Said'. Prove '..Said' where nothing that the law and all that it calls make is longer than what came in: it says more and counts as full. Else prove '..UptoSaid'. A law counts once. -/
mutual
def uptoBulk {H : Type} : DataW H → Nat
  | .lit (.string bytes) => bytes.length + 1
  | .lit _ => 1
  | .nil => 1
  | .ptr d => uptoBulk d + 1
  | .slice elems spare => uptoBulkAll elems + uptoBulkAll spare + 1
  | .agg parts => uptoBulkAll parts + 1
  | .iface _ d => uptoBulk d + 1
  | .map entries => uptoBulkEntries entries + 1
  | .held _ => 1
def uptoBulkAll {H : Type} : List (DataW H) → Nat
  | [] => 0
  | d :: r => uptoBulk d + uptoBulkAll r
def uptoBulkEntries {H : Type} : List (Lit × DataW H) → Nat
  | [] => 0
  | x :: r => uptoBulkEntry x + uptoBulkEntries r
def uptoBulkEntry {H : Type} : Lit × DataW H → Nat
  | (.string bytes, d) => bytes.length + uptoBulk d + 1
  | (_, d) => uptoBulk d + 1
 end
def uptoSmall : (H : Type) → List (DataW H) → Bool := fun _ ds => decide (uptoBulkAll ds ≤ 1048576)
def OpenSpec.upto (s : _root_.Go.ChangeSpec) : _root_.Go.OpenSpec := { _root_.Go.OpenSpec.ofChange s with cond := some uptoSmall }

/-- 'deedholdlaw23.StallTills', WHERE WHAT IT READS IS OF BULK AT MOST 1048576: true; the input reads as it did. -/
def stallTillsUptoRow : OpenClaim := { program := "ytajfjgekcjkedaa", sum := "0630fb655fe18fefc65768e12e139269616f7296760ef2ccd6df104db0d12e18", func := "deedhold/deedholdlaw23.StallTills", spec := "stallTills", inPlace := ["slices.overlaps[deedhold/stall.Good]"], unfollowed := true, recurses := true, apart := false, narrowed := true }
def StallTillsUptoSaid : Prop := stallTillsUptoRow.holds Try.pinned (OpenSpec.upto stallTillsSpec)

/-- 'deedholdlaw23.StallRestores', WHERE WHAT IT READS IS OF BULK AT MOST 1048576: true; the input reads as it did. -/
def stallRestoresUptoRow : OpenClaim := { program := "ytajfjgekcjkedaa", sum := "0630fb655fe18fefc65768e12e139269616f7296760ef2ccd6df104db0d12e18", func := "deedhold/deedholdlaw23.StallRestores", spec := "stallRestores", inPlace := ["slices.overlaps[deedhold/stall.Good]"], unfollowed := true, recurses := true, apart := false, narrowed := true }
def StallRestoresUptoSaid : Prop := stallRestoresUptoRow.holds Try.pinned (OpenSpec.upto stallRestoresSpec)

/-- 'deedholdlaw23.StallPlays', WHERE WHAT IT READS IS OF BULK AT MOST 1048576: true; the input reads as it did. -/
def stallPlaysUptoRow : OpenClaim := { program := "ytajfjgekcjkedaa", sum := "0630fb655fe18fefc65768e12e139269616f7296760ef2ccd6df104db0d12e18", func := "deedhold/deedholdlaw23.StallPlays", spec := "stallPlays", inPlace := ["slices.overlaps[deedhold/stall.Good]"], unfollowed := true, recurses := true, apart := false, narrowed := true }
def StallPlaysUptoSaid : Prop := stallPlaysUptoRow.holds Try.pinned (OpenSpec.upto stallPlaysSpec)

/-- 'deedholdlaw23.StallCopies', WHERE WHAT IT READS IS OF BULK AT MOST 1048576: true; the input reads as it did. -/
def stallCopiesUptoRow : OpenClaim := { program := "ytajfjgekcjkedaa", sum := "0630fb655fe18fefc65768e12e139269616f7296760ef2ccd6df104db0d12e18", func := "deedhold/deedholdlaw23.StallCopies", spec := "stallCopies", inPlace := ["slices.overlaps[deedhold/stall.Good]", "maps.clone"], unfollowed := true, recurses := true, apart := false, narrowed := true }
def StallCopiesUptoSaid : Prop := stallCopiesUptoRow.holds Try.pinned (OpenSpec.upto stallCopiesSpec)

end Rows
end Go.Proofs.Ytajfjgekcjkedaa
