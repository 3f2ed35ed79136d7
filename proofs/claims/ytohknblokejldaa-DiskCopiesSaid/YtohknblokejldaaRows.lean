/-
  No cell of these rows narrows 'for every input' (looked for: loops, veiled, ifaces, maps, wideKeys, modest, calm, conditions, laid).
  DERIVED. THE GIVEN ROWS OF THIS SEAT. 10 by the template 'for every input the law returns true; each argument reads behind the call as it read before'; 0 by the template 'total and deterministic' (their statements: YtohknblokejldaaTotals.lean).
  GIVEN WITH THE SEED: the statements are not yours to turn. If you find one false, say at which input.
  Laid BY PROGRAM, IN A SANDBOX (cutbox-rows.mjs): the forced cells as the released guide's own fill.sh prints them over the translation 79eee78269e6cc4c… (all of the seat's roots in one cut). By AI agents, Wed Nov 11 2026. No macro, syntax, notation, axiom, sorry.
-/
import Derived.Test.YtohknblokejldaaChecked
import GoSem.Claim
import GoSem.ClaimJoined
import GoSem.ClaimMapViews
import Derived.JoinedTies
import Derived.KernelRfl
namespace Go.Proofs.Ytohknblokejldaa
/- THE CELL 'sum', in the pinned program and in every row, IS THE sha256 OF THE DUMP (.gsa) THAT YtohknblokejldaaProg.lean LOADS. Nothing in Lean hashes anything: it is a label: what it is worth is what the hold of that sum in a sandbox is worth. -/
noncomputable def Try.pinned : Pinned := { name := "ytohknblokejldaa", sum := "79eee78269e6cc4c853d36317c5c3d7046718f1f46fce02d9e1c5558eb8bf512", checked := Try.checked }
namespace Rows
def none {H : Type} : Left H := { results := [], args := [] }

/-- 'deedholdlaw06.SlotsBytes': WHATEVER THE INPUT: true; the input reads as it did. -/
def slotsBytesSpec : ChangeSpec := { name := "slotsBytes", fn := fun _ => fun
  | [d1, d2] => { results := [.lit (.bool true)], args := [d1, d2] }
  | _ => none }
def slotsBytesRow : OpenClaim := { program := "ytohknblokejldaa", sum := "79eee78269e6cc4c853d36317c5c3d7046718f1f46fce02d9e1c5558eb8bf512", func := "deedhold/deedholdlaw06.SlotsBytes", spec := "slotsBytes", unfollowed := true, recurses := true, apart := false }
def SlotsBytesSaid : Prop := slotsBytesRow.holds Try.pinned (OpenSpec.ofChange slotsBytesSpec)

/-- ITS FALSE NEIGHBOUR: 'it returns false'. Refute it at one input. -/
def slotsBytesWrong : ChangeSpec := { name := "slotsBytes", fn := fun _ => fun
  | [d1, d2] => { results := [.lit (.bool false)], args := [d1, d2] }
  | _ => none }
def SlotsBytesWrongFalsely : Prop := slotsBytesRow.holds Try.pinned (OpenSpec.ofChange slotsBytesWrong)

/-- 'deedholdlaw06.SlotsParses': WHATEVER THE INPUT: true; the input reads as it did. -/
def slotsParsesSpec : ChangeSpec := { name := "slotsParses", fn := fun _ => fun
  | [d] => { results := [.lit (.bool true)], args := [d] }
  | _ => none }
def slotsParsesRow : OpenClaim := { program := "ytohknblokejldaa", sum := "79eee78269e6cc4c853d36317c5c3d7046718f1f46fce02d9e1c5558eb8bf512", func := "deedhold/deedholdlaw06.SlotsParses", spec := "slotsParses", unfollowed := true, recurses := true, apart := false }
def SlotsParsesSaid : Prop := slotsParsesRow.holds Try.pinned (OpenSpec.ofChange slotsParsesSpec)

/-- ITS FALSE NEIGHBOUR: 'it returns false'. Refute it at one input. -/
def slotsParsesWrong : ChangeSpec := { name := "slotsParses", fn := fun _ => fun
  | [d] => { results := [.lit (.bool false)], args := [d] }
  | _ => none }
def SlotsParsesWrongFalsely : Prop := slotsParsesRow.holds Try.pinned (OpenSpec.ofChange slotsParsesWrong)

/-- 'deedholdlaw06.SlotsLoads': WHATEVER THE INPUT: true; the input reads as it did. -/
def slotsLoadsSpec : ChangeSpec := { name := "slotsLoads", fn := fun _ => fun
  | [d1, d2, d3] => { results := [.lit (.bool true)], args := [d1, d2, d3] }
  | _ => none }
def slotsLoadsRow : OpenClaim := { program := "ytohknblokejldaa", sum := "79eee78269e6cc4c853d36317c5c3d7046718f1f46fce02d9e1c5558eb8bf512", func := "deedhold/deedholdlaw06.SlotsLoads", spec := "slotsLoads", unfollowed := true, recurses := true, apart := false }
def SlotsLoadsSaid : Prop := slotsLoadsRow.holds Try.pinned (OpenSpec.ofChange slotsLoadsSpec)

/-- ITS FALSE NEIGHBOUR: 'it returns false'. Refute it at one input. -/
def slotsLoadsWrong : ChangeSpec := { name := "slotsLoads", fn := fun _ => fun
  | [d1, d2, d3] => { results := [.lit (.bool false)], args := [d1, d2, d3] }
  | _ => none }
def SlotsLoadsWrongFalsely : Prop := slotsLoadsRow.holds Try.pinned (OpenSpec.ofChange slotsLoadsWrong)

/-- 'deedholdlaw06.SlotsCrashes': WHATEVER THE INPUT: true; the input reads as it did. -/
def slotsCrashesSpec : ChangeSpec := { name := "slotsCrashes", fn := fun _ => fun
  | [d1, d2, d3] => { results := [.lit (.bool true)], args := [d1, d2, d3] }
  | _ => none }
def slotsCrashesRow : OpenClaim := { program := "ytohknblokejldaa", sum := "79eee78269e6cc4c853d36317c5c3d7046718f1f46fce02d9e1c5558eb8bf512", func := "deedhold/deedholdlaw06.SlotsCrashes", spec := "slotsCrashes", unfollowed := true, recurses := true, apart := false }
def SlotsCrashesSaid : Prop := slotsCrashesRow.holds Try.pinned (OpenSpec.ofChange slotsCrashesSpec)

/-- ITS FALSE NEIGHBOUR: 'it returns false'. Refute it at one input. -/
def slotsCrashesWrong : ChangeSpec := { name := "slotsCrashes", fn := fun _ => fun
  | [d1, d2, d3] => { results := [.lit (.bool false)], args := [d1, d2, d3] }
  | _ => none }
def SlotsCrashesWrongFalsely : Prop := slotsCrashesRow.holds Try.pinned (OpenSpec.ofChange slotsCrashesWrong)

/-- 'deedholdlaw22.ChestPlays': WHATEVER THE INPUT: true; the input reads as it did. -/
def chestPlaysSpec : ChangeSpec := { name := "chestPlays", fn := fun _ => fun
  | [d] => { results := [.lit (.bool true)], args := [d] }
  | _ => none }
def chestPlaysRow : OpenClaim := { program := "ytohknblokejldaa", sum := "79eee78269e6cc4c853d36317c5c3d7046718f1f46fce02d9e1c5558eb8bf512", func := "deedhold/deedholdlaw22.ChestPlays", spec := "chestPlays", unfollowed := true, recurses := true, apart := false }
def ChestPlaysSaid : Prop := chestPlaysRow.holds Try.pinned (OpenSpec.ofChange chestPlaysSpec)

/-- ITS FALSE NEIGHBOUR: 'it returns false'. Refute it at one input. -/
def chestPlaysWrong : ChangeSpec := { name := "chestPlays", fn := fun _ => fun
  | [d] => { results := [.lit (.bool false)], args := [d] }
  | _ => none }
def ChestPlaysWrongFalsely : Prop := chestPlaysRow.holds Try.pinned (OpenSpec.ofChange chestPlaysWrong)

/-- 'deedholdlaw22.ChestRestores': WHATEVER THE INPUT: true; the input reads as it did. -/
def chestRestoresSpec : ChangeSpec := { name := "chestRestores", fn := fun _ => fun
  | [d] => { results := [.lit (.bool true)], args := [d] }
  | _ => none }
def chestRestoresRow : OpenClaim := { program := "ytohknblokejldaa", sum := "79eee78269e6cc4c853d36317c5c3d7046718f1f46fce02d9e1c5558eb8bf512", func := "deedhold/deedholdlaw22.ChestRestores", spec := "chestRestores", unfollowed := true, recurses := true, apart := false }
def ChestRestoresSaid : Prop := chestRestoresRow.holds Try.pinned (OpenSpec.ofChange chestRestoresSpec)

/-- ITS FALSE NEIGHBOUR: 'it returns false'. Refute it at one input. -/
def chestRestoresWrong : ChangeSpec := { name := "chestRestores", fn := fun _ => fun
  | [d] => { results := [.lit (.bool false)], args := [d] }
  | _ => none }
def ChestRestoresWrongFalsely : Prop := chestRestoresRow.holds Try.pinned (OpenSpec.ofChange chestRestoresWrong)

/-- 'deedholdlaw22.ChestCopies': WHATEVER THE INPUT: true; the input reads as it did. -/
def chestCopiesSpec : ChangeSpec := { name := "chestCopies", fn := fun _ => fun
  | [d1, d2] => { results := [.lit (.bool true)], args := [d1, d2] }
  | _ => none }
def chestCopiesRow : OpenClaim := { program := "ytohknblokejldaa", sum := "79eee78269e6cc4c853d36317c5c3d7046718f1f46fce02d9e1c5558eb8bf512", func := "deedhold/deedholdlaw22.ChestCopies", spec := "chestCopies", unfollowed := true, recurses := true, apart := false }
def ChestCopiesSaid : Prop := chestCopiesRow.holds Try.pinned (OpenSpec.ofChange chestCopiesSpec)

/-- ITS FALSE NEIGHBOUR: 'it returns false'. Refute it at one input. -/
def chestCopiesWrong : ChangeSpec := { name := "chestCopies", fn := fun _ => fun
  | [d1, d2] => { results := [.lit (.bool false)], args := [d1, d2] }
  | _ => none }
def ChestCopiesWrongFalsely : Prop := chestCopiesRow.holds Try.pinned (OpenSpec.ofChange chestCopiesWrong)

/-- 'deedholdlaw05.DiskKeeps': WHATEVER THE INPUT: true; the input reads as it did. -/
def diskKeepsSpec : ChangeSpec := { name := "diskKeeps", fn := fun _ => fun
  | [d1, d2] => { results := [.lit (.bool true)], args := [d1, d2] }
  | _ => none }
def diskKeepsRow : OpenClaim := { program := "ytohknblokejldaa", sum := "79eee78269e6cc4c853d36317c5c3d7046718f1f46fce02d9e1c5558eb8bf512", func := "deedhold/deedholdlaw05.DiskKeeps", spec := "diskKeeps", unfollowed := true, recurses := true, apart := false }
def DiskKeepsSaid : Prop := diskKeepsRow.holds Try.pinned (OpenSpec.ofChange diskKeepsSpec)

/-- ITS FALSE NEIGHBOUR: 'it returns false'. Refute it at one input. -/
def diskKeepsWrong : ChangeSpec := { name := "diskKeeps", fn := fun _ => fun
  | [d1, d2] => { results := [.lit (.bool false)], args := [d1, d2] }
  | _ => none }
def DiskKeepsWrongFalsely : Prop := diskKeepsRow.holds Try.pinned (OpenSpec.ofChange diskKeepsWrong)

/-- 'deedholdlaw05.DiskPlays': WHATEVER THE INPUT: true; the input reads as it did. -/
def diskPlaysSpec : ChangeSpec := { name := "diskPlays", fn := fun _ => fun
  | [d] => { results := [.lit (.bool true)], args := [d] }
  | _ => none }
def diskPlaysRow : OpenClaim := { program := "ytohknblokejldaa", sum := "79eee78269e6cc4c853d36317c5c3d7046718f1f46fce02d9e1c5558eb8bf512", func := "deedhold/deedholdlaw05.DiskPlays", spec := "diskPlays", unfollowed := true, recurses := true, apart := false }
def DiskPlaysSaid : Prop := diskPlaysRow.holds Try.pinned (OpenSpec.ofChange diskPlaysSpec)

/-- ITS FALSE NEIGHBOUR: 'it returns false'. Refute it at one input. -/
def diskPlaysWrong : ChangeSpec := { name := "diskPlays", fn := fun _ => fun
  | [d] => { results := [.lit (.bool false)], args := [d] }
  | _ => none }
def DiskPlaysWrongFalsely : Prop := diskPlaysRow.holds Try.pinned (OpenSpec.ofChange diskPlaysWrong)

/-- 'deedholdlaw05.DiskCopies': WHATEVER THE INPUT: true; the input reads as it did. -/
def diskCopiesSpec : ChangeSpec := { name := "diskCopies", fn := fun _ => fun
  | [d1, d2] => { results := [.lit (.bool true)], args := [d1, d2] }
  | _ => none }
def diskCopiesRow : OpenClaim := { program := "ytohknblokejldaa", sum := "79eee78269e6cc4c853d36317c5c3d7046718f1f46fce02d9e1c5558eb8bf512", func := "deedhold/deedholdlaw05.DiskCopies", spec := "diskCopies", inPlace := ["maps.clone"], unfollowed := true, recurses := true, apart := false }
def DiskCopiesSaid : Prop := diskCopiesRow.holds Try.pinned (OpenSpec.ofChange diskCopiesSpec)

/-- ITS FALSE NEIGHBOUR: 'it returns false'. Refute it at one input. -/
def diskCopiesWrong : ChangeSpec := { name := "diskCopies", fn := fun _ => fun
  | [d1, d2] => { results := [.lit (.bool false)], args := [d1, d2] }
  | _ => none }
def DiskCopiesWrongFalsely : Prop := diskCopiesRow.holds Try.pinned (OpenSpec.ofChange diskCopiesWrong)

/- THE SECOND FORM. 'bulk': how many values and letters a reading holds, each counted each time it is reached (what is shared counts as often as it is met; a slice's spare places count too). A statement '..UptoSaid' is the law's where the arguments, and the package variables that the reading takes, are together of bulk at most 1048576: NARROWER than '..Said'. Prove '..Said' where nothing that the law and all that it calls make is longer than what came in: it says more and counts as full. Else prove '..UptoSaid'. A law counts once. -/
mutual
def uptoBulk {H : Type} : DataW H → Nat
  | .lit (.string bytes) => bytes.length + 1
  | .lit _ => 1
  | .nil => 1
  | .ptr d => uptoBulk d + 1
  | .slice elems spare => uptoBulkAll elems + uptoBulkAll spare + 1
  | .agg parts => uptoBulkAll parts + 1
  | .iface _ d => uptoBulk d + 1
  | .map entries => uptoBulkEntries entries + 1
  | .held _ => 1
def uptoBulkAll {H : Type} : List (DataW H) → Nat
  | [] => 0
  | d :: r => uptoBulk d + uptoBulkAll r
def uptoBulkEntries {H : Type} : List (Lit × DataW H) → Nat
  | [] => 0
  | x :: r => uptoBulkEntry x + uptoBulkEntries r
def uptoBulkEntry {H : Type} : Lit × DataW H → Nat
  | (.string bytes, d) => bytes.length + uptoBulk d + 1
  | (_, d) => uptoBulk d + 1
 end
def uptoSmall : (H : Type) → List (DataW H) → Bool := fun _ ds => decide (uptoBulkAll ds ≤ 1048576)
def OpenSpec.upto (s : _root_.Go.ChangeSpec) : _root_.Go.OpenSpec := { _root_.Go.OpenSpec.ofChange s with cond := some uptoSmall }

/-- 'deedholdlaw06.SlotsBytes', WHERE WHAT IT READS IS OF BULK AT MOST 1048576: true; the input reads as it did. -/
def slotsBytesUptoRow : OpenClaim := { program := "ytohknblokejldaa", sum := "79eee78269e6cc4c853d36317c5c3d7046718f1f46fce02d9e1c5558eb8bf512", func := "deedhold/deedholdlaw06.SlotsBytes", spec := "slotsBytes", unfollowed := true, recurses := true, apart := false, narrowed := true }
def SlotsBytesUptoSaid : Prop := slotsBytesUptoRow.holds Try.pinned (OpenSpec.upto slotsBytesSpec)

/-- 'deedholdlaw06.SlotsParses', WHERE WHAT IT READS IS OF BULK AT MOST 1048576: true; the input reads as it did. -/
def slotsParsesUptoRow : OpenClaim := { program := "ytohknblokejldaa", sum := "79eee78269e6cc4c853d36317c5c3d7046718f1f46fce02d9e1c5558eb8bf512", func := "deedhold/deedholdlaw06.SlotsParses", spec := "slotsParses", unfollowed := true, recurses := true, apart := false, narrowed := true }
def SlotsParsesUptoSaid : Prop := slotsParsesUptoRow.holds Try.pinned (OpenSpec.upto slotsParsesSpec)

/-- 'deedholdlaw06.SlotsLoads', WHERE WHAT IT READS IS OF BULK AT MOST 1048576: true; the input reads as it did. -/
def slotsLoadsUptoRow : OpenClaim := { program := "ytohknblokejldaa", sum := "79eee78269e6cc4c853d36317c5c3d7046718f1f46fce02d9e1c5558eb8bf512", func := "deedhold/deedholdlaw06.SlotsLoads", spec := "slotsLoads", unfollowed := true, recurses := true, apart := false, narrowed := true }
def SlotsLoadsUptoSaid : Prop := slotsLoadsUptoRow.holds Try.pinned (OpenSpec.upto slotsLoadsSpec)

/-- 'deedholdlaw06.SlotsCrashes', WHERE WHAT IT READS IS OF BULK AT MOST 1048576: true; the input reads as it did. -/
def slotsCrashesUptoRow : OpenClaim := { program := "ytohknblokejldaa", sum := "79eee78269e6cc4c853d36317c5c3d7046718f1f46fce02d9e1c5558eb8bf512", func := "deedhold/deedholdlaw06.SlotsCrashes", spec := "slotsCrashes", unfollowed := true, recurses := true, apart := false, narrowed := true }
def SlotsCrashesUptoSaid : Prop := slotsCrashesUptoRow.holds Try.pinned (OpenSpec.upto slotsCrashesSpec)

/-- 'deedholdlaw22.ChestPlays', WHERE WHAT IT READS IS OF BULK AT MOST 1048576: true; the input reads as it did. -/
def chestPlaysUptoRow : OpenClaim := { program := "ytohknblokejldaa", sum := "79eee78269e6cc4c853d36317c5c3d7046718f1f46fce02d9e1c5558eb8bf512", func := "deedhold/deedholdlaw22.ChestPlays", spec := "chestPlays", unfollowed := true, recurses := true, apart := false, narrowed := true }
def ChestPlaysUptoSaid : Prop := chestPlaysUptoRow.holds Try.pinned (OpenSpec.upto chestPlaysSpec)

/-- 'deedholdlaw22.ChestRestores', WHERE WHAT IT READS IS OF BULK AT MOST 1048576: true; the input reads as it did. -/
def chestRestoresUptoRow : OpenClaim := { program := "ytohknblokejldaa", sum := "79eee78269e6cc4c853d36317c5c3d7046718f1f46fce02d9e1c5558eb8bf512", func := "deedhold/deedholdlaw22.ChestRestores", spec := "chestRestores", unfollowed := true, recurses := true, apart := false, narrowed := true }
def ChestRestoresUptoSaid : Prop := chestRestoresUptoRow.holds Try.pinned (OpenSpec.upto chestRestoresSpec)

/-- 'deedholdlaw22.ChestCopies', WHERE WHAT IT READS IS OF BULK AT MOST 1048576: true; the input reads as it did. -/
def chestCopiesUptoRow : OpenClaim := { program := "ytohknblokejldaa", sum := "79eee78269e6cc4c853d36317c5c3d7046718f1f46fce02d9e1c5558eb8bf512", func := "deedhold/deedholdlaw22.ChestCopies", spec := "chestCopies", unfollowed := true, recurses := true, apart := false, narrowed := true }
def ChestCopiesUptoSaid : Prop := chestCopiesUptoRow.holds Try.pinned (OpenSpec.upto chestCopiesSpec)

/-- 'deedholdlaw05.DiskKeeps', WHERE WHAT IT READS IS OF BULK AT MOST 1048576: true; the input reads as it did. -/
def diskKeepsUptoRow : OpenClaim := { program := "ytohknblokejldaa", sum := "79eee78269e6cc4c853d36317c5c3d7046718f1f46fce02d9e1c5558eb8bf512", func := "deedhold/deedholdlaw05.DiskKeeps", spec := "diskKeeps", unfollowed := true, recurses := true, apart := false, narrowed := true }
def DiskKeepsUptoSaid : Prop := diskKeepsUptoRow.holds Try.pinned (OpenSpec.upto diskKeepsSpec)

/-- 'deedholdlaw05.DiskPlays', WHERE WHAT IT READS IS OF BULK AT MOST 1048576: true; the input reads as it did. -/
def diskPlaysUptoRow : OpenClaim := { program := "ytohknblokejldaa", sum := "79eee78269e6cc4c853d36317c5c3d7046718f1f46fce02d9e1c5558eb8bf512", func := "deedhold/deedholdlaw05.DiskPlays", spec := "diskPlays", unfollowed := true, recurses := true, apart := false, narrowed := true }
def DiskPlaysUptoSaid : Prop := diskPlaysUptoRow.holds Try.pinned (OpenSpec.upto diskPlaysSpec)

/-- 'deedholdlaw05.DiskCopies', WHERE WHAT IT READS IS OF BULK AT MOST 1048576: true; the input reads as it did. -/
def diskCopiesUptoRow : OpenClaim := { program := "ytohknblokejldaa", sum := "79eee78269e6cc4c853d36317c5c3d7046718f1f46fce02d9e1c5558eb8bf512", func := "deedhold/deedholdlaw05.DiskCopies", spec := "diskCopies", inPlace := ["maps.clone"], unfollowed := true, recurses := true, apart := false, narrowed := true }
def DiskCopiesUptoSaid : Prop := diskCopiesUptoRow.holds Try.pinned (OpenSpec.upto diskCopiesSpec)

end Rows
end Go.Proofs.Ytohknblokejldaa
