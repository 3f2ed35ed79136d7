/-
  No cell of these rows narrows 'for every input' (looked for: loops, veiled, ifaces, maps, wideKeys, modest, calm, conditions, laid).
  DERIVED. THE GIVEN ROWS OF THIS SEAT. 12 by the template 'for every input the law returns true; each argument reads behind the call as it read before'; 0 by the template 'total and deterministic' (their statements: YtopdcjekdmaopaaTotals.lean).
  GIVEN WITH THE SEED: the statements are not yours to turn. If you find one false, say at which input.
  Laid BY PROGRAM, IN A SANDBOX (cutbox-rows.mjs): the forced cells as the released guide's own fill.sh prints them over the translation 2a469f191af4ea4f… (all of the seat's roots in one cut). By AI agents, Wed Nov 11 2026. No macro, syntax, notation, axiom, sorry.
-/
import Derived.Test.YtopdcjekdmaopaaChecked
import GoSem.Claim
import GoSem.ClaimJoined
import GoSem.ClaimMapViews
import Derived.JoinedTies
import Derived.KernelRfl
namespace Go.Proofs.Ytopdcjekdmaopaa
/- THE CELL 'sum', in the pinned program and in every row, IS THE sha256 OF THE DUMP (.gsa) THAT YtopdcjekdmaopaaProg.lean LOADS. Nothing in Lean hashes anything: it is a label: what it is worth is what the hold of that sum in a sandbox is worth. -/
noncomputable def Try.pinned : Pinned := { name := "ytopdcjekdmaopaa", sum := "2a469f191af4ea4f2983548086145131734909c69998eef968199ae8373fcc62", checked := Try.checked }
namespace Rows
def none {H : Type} : Left H := { results := [], args := [] }

/-- 'deedholdlaw01.GoldAdds': WHATEVER THE INPUT: true; the input reads as it did. -/
def goldAddsSpec : ChangeSpec := { name := "goldAdds", fn := fun _ => fun
  | [d1, d2] => { results := [.lit (.bool true)], args := [d1, d2] }
  | _ => none }
def goldAddsRow : OpenClaim := { program := "ytopdcjekdmaopaa", sum := "2a469f191af4ea4f2983548086145131734909c69998eef968199ae8373fcc62", func := "deedhold/deedholdlaw01.GoldAdds", spec := "goldAdds", apart := false }
def GoldAddsSaid : Prop := goldAddsRow.holds Try.pinned (OpenSpec.ofChange goldAddsSpec)

/-- ITS FALSE NEIGHBOUR: 'it returns false'. Refute it at one input. -/
def goldAddsWrong : ChangeSpec := { name := "goldAdds", fn := fun _ => fun
  | [d1, d2] => { results := [.lit (.bool false)], args := [d1, d2] }
  | _ => none }
def GoldAddsWrongFalsely : Prop := goldAddsRow.holds Try.pinned (OpenSpec.ofChange goldAddsWrong)

/-- 'deedholdlaw01.GoldSteps': WHATEVER THE INPUT: true; the input reads as it did. -/
def goldStepsSpec : ChangeSpec := { name := "goldSteps", fn := fun _ => fun
  | [d] => { results := [.lit (.bool true)], args := [d] }
  | _ => none }
def goldStepsRow : OpenClaim := { program := "ytopdcjekdmaopaa", sum := "2a469f191af4ea4f2983548086145131734909c69998eef968199ae8373fcc62", func := "deedhold/deedholdlaw01.GoldSteps", spec := "goldSteps", apart := false }
def GoldStepsSaid : Prop := goldStepsRow.holds Try.pinned (OpenSpec.ofChange goldStepsSpec)

/-- ITS FALSE NEIGHBOUR: 'it returns false'. Refute it at one input. -/
def goldStepsWrong : ChangeSpec := { name := "goldSteps", fn := fun _ => fun
  | [d] => { results := [.lit (.bool false)], args := [d] }
  | _ => none }
def GoldStepsWrongFalsely : Prop := goldStepsRow.holds Try.pinned (OpenSpec.ofChange goldStepsWrong)

/-- 'deedholdlaw01.GoldShares': WHATEVER THE INPUT: true; the input reads as it did. -/
def goldSharesSpec : ChangeSpec := { name := "goldShares", fn := fun _ => fun
  | [d1, d2] => { results := [.lit (.bool true)], args := [d1, d2] }
  | _ => none }
def goldSharesRow : OpenClaim := { program := "ytopdcjekdmaopaa", sum := "2a469f191af4ea4f2983548086145131734909c69998eef968199ae8373fcc62", func := "deedhold/deedholdlaw01.GoldShares", spec := "goldShares", apart := false }
def GoldSharesSaid : Prop := goldSharesRow.holds Try.pinned (OpenSpec.ofChange goldSharesSpec)

/-- ITS FALSE NEIGHBOUR: 'it returns false'. Refute it at one input. -/
def goldSharesWrong : ChangeSpec := { name := "goldShares", fn := fun _ => fun
  | [d1, d2] => { results := [.lit (.bool false)], args := [d1, d2] }
  | _ => none }
def GoldSharesWrongFalsely : Prop := goldSharesRow.holds Try.pinned (OpenSpec.ofChange goldSharesWrong)

/-- 'deedholdlaw01.GoldTimes': WHATEVER THE INPUT: true; the input reads as it did. -/
def goldTimesSpec : ChangeSpec := { name := "goldTimes", fn := fun _ => fun
  | [d1, d2] => { results := [.lit (.bool true)], args := [d1, d2] }
  | _ => none }
def goldTimesRow : OpenClaim := { program := "ytopdcjekdmaopaa", sum := "2a469f191af4ea4f2983548086145131734909c69998eef968199ae8373fcc62", func := "deedhold/deedholdlaw01.GoldTimes", spec := "goldTimes", apart := false }
def GoldTimesSaid : Prop := goldTimesRow.holds Try.pinned (OpenSpec.ofChange goldTimesSpec)

/-- ITS FALSE NEIGHBOUR: 'it returns false'. Refute it at one input. -/
def goldTimesWrong : ChangeSpec := { name := "goldTimes", fn := fun _ => fun
  | [d1, d2] => { results := [.lit (.bool false)], args := [d1, d2] }
  | _ => none }
def GoldTimesWrongFalsely : Prop := goldTimesRow.holds Try.pinned (OpenSpec.ofChange goldTimesWrong)

/-- 'deedholdlaw01.GoldSums': WHATEVER THE INPUT: true; the input reads as it did. -/
def goldSumsSpec : ChangeSpec := { name := "goldSums", fn := fun _ => fun
  | [d] => { results := [.lit (.bool true)], args := [d] }
  | _ => none }
def goldSumsRow : OpenClaim := { program := "ytopdcjekdmaopaa", sum := "2a469f191af4ea4f2983548086145131734909c69998eef968199ae8373fcc62", func := "deedhold/deedholdlaw01.GoldSums", spec := "goldSums", apart := false }
def GoldSumsSaid : Prop := goldSumsRow.holds Try.pinned (OpenSpec.ofChange goldSumsSpec)

/-- ITS FALSE NEIGHBOUR: 'it returns false'. Refute it at one input. -/
def goldSumsWrong : ChangeSpec := { name := "goldSums", fn := fun _ => fun
  | [d] => { results := [.lit (.bool false)], args := [d] }
  | _ => none }
def GoldSumsWrongFalsely : Prop := goldSumsRow.holds Try.pinned (OpenSpec.ofChange goldSumsWrong)

/-- 'deedholdlaw01.GoldSplits': WHATEVER THE INPUT: true; the input reads as it did. -/
def goldSplitsSpec : ChangeSpec := { name := "goldSplits", fn := fun _ => fun
  | [d1, d2] => { results := [.lit (.bool true)], args := [d1, d2] }
  | _ => none }
def goldSplitsRow : OpenClaim := { program := "ytopdcjekdmaopaa", sum := "2a469f191af4ea4f2983548086145131734909c69998eef968199ae8373fcc62", func := "deedhold/deedholdlaw01.GoldSplits", spec := "goldSplits", apart := false }
def GoldSplitsSaid : Prop := goldSplitsRow.holds Try.pinned (OpenSpec.ofChange goldSplitsSpec)

/-- ITS FALSE NEIGHBOUR: 'it returns false'. Refute it at one input. -/
def goldSplitsWrong : ChangeSpec := { name := "goldSplits", fn := fun _ => fun
  | [d1, d2] => { results := [.lit (.bool false)], args := [d1, d2] }
  | _ => none }
def GoldSplitsWrongFalsely : Prop := goldSplitsRow.holds Try.pinned (OpenSpec.ofChange goldSplitsWrong)

/-- 'deedholdlaw03.SealSums': WHATEVER THE INPUT: true; the input reads as it did. -/
def sealSumsSpec : ChangeSpec := { name := "sealSums", fn := fun _ => fun
  | [d1, d2] => { results := [.lit (.bool true)], args := [d1, d2] }
  | _ => none }
def sealSumsRow : OpenClaim := { program := "ytopdcjekdmaopaa", sum := "2a469f191af4ea4f2983548086145131734909c69998eef968199ae8373fcc62", func := "deedhold/deedholdlaw03.SealSums", spec := "sealSums", apart := false }
def SealSumsSaid : Prop := sealSumsRow.holds Try.pinned (OpenSpec.ofChange sealSumsSpec)

/-- ITS FALSE NEIGHBOUR: 'it returns false'. Refute it at one input. -/
def sealSumsWrong : ChangeSpec := { name := "sealSums", fn := fun _ => fun
  | [d1, d2] => { results := [.lit (.bool false)], args := [d1, d2] }
  | _ => none }
def SealSumsWrongFalsely : Prop := sealSumsRow.holds Try.pinned (OpenSpec.ofChange sealSumsWrong)

/-- 'deedholdlaw03.SealOpens': WHATEVER THE INPUT: true; the input reads as it did. -/
def sealOpensSpec : ChangeSpec := { name := "sealOpens", fn := fun _ => fun
  | [d] => { results := [.lit (.bool true)], args := [d] }
  | _ => none }
def sealOpensRow : OpenClaim := { program := "ytopdcjekdmaopaa", sum := "2a469f191af4ea4f2983548086145131734909c69998eef968199ae8373fcc62", func := "deedhold/deedholdlaw03.SealOpens", spec := "sealOpens", apart := false }
def SealOpensSaid : Prop := sealOpensRow.holds Try.pinned (OpenSpec.ofChange sealOpensSpec)

/-- ITS FALSE NEIGHBOUR: 'it returns false'. Refute it at one input. -/
def sealOpensWrong : ChangeSpec := { name := "sealOpens", fn := fun _ => fun
  | [d] => { results := [.lit (.bool false)], args := [d] }
  | _ => none }
def SealOpensWrongFalsely : Prop := sealOpensRow.holds Try.pinned (OpenSpec.ofChange sealOpensWrong)

/-- 'deedholdlaw03.SealFits': WHATEVER THE INPUT: true; the input reads as it did. -/
def sealFitsSpec : ChangeSpec := { name := "sealFits", fn := fun _ => fun
  | [d1, d2] => { results := [.lit (.bool true)], args := [d1, d2] }
  | _ => none }
def sealFitsRow : OpenClaim := { program := "ytopdcjekdmaopaa", sum := "2a469f191af4ea4f2983548086145131734909c69998eef968199ae8373fcc62", func := "deedhold/deedholdlaw03.SealFits", spec := "sealFits", apart := false }
def SealFitsSaid : Prop := sealFitsRow.holds Try.pinned (OpenSpec.ofChange sealFitsSpec)

/-- ITS FALSE NEIGHBOUR: 'it returns false'. Refute it at one input. -/
def sealFitsWrong : ChangeSpec := { name := "sealFits", fn := fun _ => fun
  | [d1, d2] => { results := [.lit (.bool false)], args := [d1, d2] }
  | _ => none }
def SealFitsWrongFalsely : Prop := sealFitsRow.holds Try.pinned (OpenSpec.ofChange sealFitsWrong)

/-- 'deedholdlaw03.SealParts': WHATEVER THE INPUT: true; the input reads as it did. -/
def sealPartsSpec : ChangeSpec := { name := "sealParts", fn := fun _ => fun
  | [d1, d2] => { results := [.lit (.bool true)], args := [d1, d2] }
  | _ => none }
def sealPartsRow : OpenClaim := { program := "ytopdcjekdmaopaa", sum := "2a469f191af4ea4f2983548086145131734909c69998eef968199ae8373fcc62", func := "deedhold/deedholdlaw03.SealParts", spec := "sealParts", apart := false }
def SealPartsSaid : Prop := sealPartsRow.holds Try.pinned (OpenSpec.ofChange sealPartsSpec)

/-- ITS FALSE NEIGHBOUR: 'it returns false'. Refute it at one input. -/
def sealPartsWrong : ChangeSpec := { name := "sealParts", fn := fun _ => fun
  | [d1, d2] => { results := [.lit (.bool false)], args := [d1, d2] }
  | _ => none }
def SealPartsWrongFalsely : Prop := sealPartsRow.holds Try.pinned (OpenSpec.ofChange sealPartsWrong)

/-- 'deedholdlaw03.SealOwn': WHATEVER THE INPUT: true; the input reads as it did. -/
def sealOwnSpec : ChangeSpec := { name := "sealOwn", fn := fun _ => fun
  | [d1, d2] => { results := [.lit (.bool true)], args := [d1, d2] }
  | _ => none }
def sealOwnRow : OpenClaim := { program := "ytopdcjekdmaopaa", sum := "2a469f191af4ea4f2983548086145131734909c69998eef968199ae8373fcc62", func := "deedhold/deedholdlaw03.SealOwn", spec := "sealOwn", apart := false }
def SealOwnSaid : Prop := sealOwnRow.holds Try.pinned (OpenSpec.ofChange sealOwnSpec)

/-- ITS FALSE NEIGHBOUR: 'it returns false'. Refute it at one input. -/
def sealOwnWrong : ChangeSpec := { name := "sealOwn", fn := fun _ => fun
  | [d1, d2] => { results := [.lit (.bool false)], args := [d1, d2] }
  | _ => none }
def SealOwnWrongFalsely : Prop := sealOwnRow.holds Try.pinned (OpenSpec.ofChange sealOwnWrong)

/-- 'deedholdlaw22.ChestMay': WHATEVER THE INPUT: true; the input reads as it did. -/
def chestMaySpec : ChangeSpec := { name := "chestMay", fn := fun _ => fun
  | [d1, d2, d3] => { results := [.lit (.bool true)], args := [d1, d2, d3] }
  | _ => none }
def chestMayRow : OpenClaim := { program := "ytopdcjekdmaopaa", sum := "2a469f191af4ea4f2983548086145131734909c69998eef968199ae8373fcc62", func := "deedhold/deedholdlaw22.ChestMay", spec := "chestMay", apart := false }
def ChestMaySaid : Prop := chestMayRow.holds Try.pinned (OpenSpec.ofChange chestMaySpec)

/-- ITS FALSE NEIGHBOUR: 'it returns false'. Refute it at one input. -/
def chestMayWrong : ChangeSpec := { name := "chestMay", fn := fun _ => fun
  | [d1, d2, d3] => { results := [.lit (.bool false)], args := [d1, d2, d3] }
  | _ => none }
def ChestMayWrongFalsely : Prop := chestMayRow.holds Try.pinned (OpenSpec.ofChange chestMayWrong)

/- THE SECOND FORM. 'bulk': how many values and letters a reading holds, each counted each time it is reached (what is shared counts as often as it is met; a slice's spare places count too). A statement '..UptoSaid' is the law's where the arguments, and the package variables that the reading takes, are together of bulk at most 1048576: NARROWER than '..Said'. Prove '..Said' where nothing that the law and all that it calls make is longer than what came in: it says more and counts as full. Else prove '..UptoSaid'. A law counts once. -/
mutual
def uptoBulk {H : Type} : DataW H → Nat
  | .lit (.string bytes) => bytes.length + 1
  | .lit _ => 1
  | .nil => 1
  | .ptr d => uptoBulk d + 1
  | .slice elems spare => uptoBulkAll elems + uptoBulkAll spare + 1
  | .agg parts => uptoBulkAll parts + 1
  | .iface _ d => uptoBulk d + 1
  | .map entries => uptoBulkEntries entries + 1
  | .held _ => 1
def uptoBulkAll {H : Type} : List (DataW H) → Nat
  | [] => 0
  | d :: r => uptoBulk d + uptoBulkAll r
def uptoBulkEntries {H : Type} : List (Lit × DataW H) → Nat
  | [] => 0
  | x :: r => uptoBulkEntry x + uptoBulkEntries r
def uptoBulkEntry {H : Type} : Lit × DataW H → Nat
  | (.string bytes, d) => bytes.length + uptoBulk d + 1
  | (_, d) => uptoBulk d + 1
 end
def uptoSmall : (H : Type) → List (DataW H) → Bool := fun _ ds => decide (uptoBulkAll ds ≤ 1048576)
def OpenSpec.upto (s : _root_.Go.ChangeSpec) : _root_.Go.OpenSpec := { _root_.Go.OpenSpec.ofChange s with cond := some uptoSmall }

/-- 'deedholdlaw01.GoldAdds', WHERE WHAT IT READS IS OF BULK AT MOST 1048576: true; the input reads as it did. -/
def goldAddsUptoRow : OpenClaim := { program := "ytopdcjekdmaopaa", sum := "2a469f191af4ea4f2983548086145131734909c69998eef968199ae8373fcc62", func := "deedhold/deedholdlaw01.GoldAdds", spec := "goldAdds", apart := false, narrowed := true }
def GoldAddsUptoSaid : Prop := goldAddsUptoRow.holds Try.pinned (OpenSpec.upto goldAddsSpec)

/-- 'deedholdlaw01.GoldSteps', WHERE WHAT IT READS IS OF BULK AT MOST 1048576: true; the input reads as it did. -/
def goldStepsUptoRow : OpenClaim := { program := "ytopdcjekdmaopaa", sum := "2a469f191af4ea4f2983548086145131734909c69998eef968199ae8373fcc62", func := "deedhold/deedholdlaw01.GoldSteps", spec := "goldSteps", apart := false, narrowed := true }
def GoldStepsUptoSaid : Prop := goldStepsUptoRow.holds Try.pinned (OpenSpec.upto goldStepsSpec)

/-- 'deedholdlaw01.GoldShares', WHERE WHAT IT READS IS OF BULK AT MOST 1048576: true; the input reads as it did. -/
def goldSharesUptoRow : OpenClaim := { program := "ytopdcjekdmaopaa", sum := "2a469f191af4ea4f2983548086145131734909c69998eef968199ae8373fcc62", func := "deedhold/deedholdlaw01.GoldShares", spec := "goldShares", apart := false, narrowed := true }
def GoldSharesUptoSaid : Prop := goldSharesUptoRow.holds Try.pinned (OpenSpec.upto goldSharesSpec)

/-- 'deedholdlaw01.GoldTimes', WHERE WHAT IT READS IS OF BULK AT MOST 1048576: true; the input reads as it did. -/
def goldTimesUptoRow : OpenClaim := { program := "ytopdcjekdmaopaa", sum := "2a469f191af4ea4f2983548086145131734909c69998eef968199ae8373fcc62", func := "deedhold/deedholdlaw01.GoldTimes", spec := "goldTimes", apart := false, narrowed := true }
def GoldTimesUptoSaid : Prop := goldTimesUptoRow.holds Try.pinned (OpenSpec.upto goldTimesSpec)

/-- 'deedholdlaw01.GoldSums', WHERE WHAT IT READS IS OF BULK AT MOST 1048576: true; the input reads as it did. -/
def goldSumsUptoRow : OpenClaim := { program := "ytopdcjekdmaopaa", sum := "2a469f191af4ea4f2983548086145131734909c69998eef968199ae8373fcc62", func := "deedhold/deedholdlaw01.GoldSums", spec := "goldSums", apart := false, narrowed := true }
def GoldSumsUptoSaid : Prop := goldSumsUptoRow.holds Try.pinned (OpenSpec.upto goldSumsSpec)

/-- 'deedholdlaw01.GoldSplits', WHERE WHAT IT READS IS OF BULK AT MOST 1048576: true; the input reads as it did. -/
def goldSplitsUptoRow : OpenClaim := { program := "ytopdcjekdmaopaa", sum := "2a469f191af4ea4f2983548086145131734909c69998eef968199ae8373fcc62", func := "deedhold/deedholdlaw01.GoldSplits", spec := "goldSplits", apart := false, narrowed := true }
def GoldSplitsUptoSaid : Prop := goldSplitsUptoRow.holds Try.pinned (OpenSpec.upto goldSplitsSpec)

/-- 'deedholdlaw03.SealSums', WHERE WHAT IT READS IS OF BULK AT MOST 1048576: true; the input reads as it did. -/
def sealSumsUptoRow : OpenClaim := { program := "ytopdcjekdmaopaa", sum := "2a469f191af4ea4f2983548086145131734909c69998eef968199ae8373fcc62", func := "deedhold/deedholdlaw03.SealSums", spec := "sealSums", apart := false, narrowed := true }
def SealSumsUptoSaid : Prop := sealSumsUptoRow.holds Try.pinned (OpenSpec.upto sealSumsSpec)

/-- 'deedholdlaw03.SealOpens', WHERE WHAT IT READS IS OF BULK AT MOST 1048576: true; the input reads as it did. -/
def sealOpensUptoRow : OpenClaim := { program := "ytopdcjekdmaopaa", sum := "2a469f191af4ea4f2983548086145131734909c69998eef968199ae8373fcc62", func := "deedhold/deedholdlaw03.SealOpens", spec := "sealOpens", apart := false, narrowed := true }
def SealOpensUptoSaid : Prop := sealOpensUptoRow.holds Try.pinned (OpenSpec.upto sealOpensSpec)

/-- 'deedholdlaw03.SealFits', WHERE WHAT IT READS IS OF BULK AT MOST 1048576: true; the input reads as it did. -/
def sealFitsUptoRow : OpenClaim := { program := "ytopdcjekdmaopaa", sum := "2a469f191af4ea4f2983548086145131734909c69998eef968199ae8373fcc62", func := "deedhold/deedholdlaw03.SealFits", spec := "sealFits", apart := false, narrowed := true }
def SealFitsUptoSaid : Prop := sealFitsUptoRow.holds Try.pinned (OpenSpec.upto sealFitsSpec)

/-- 'deedholdlaw03.SealParts', WHERE WHAT IT READS IS OF BULK AT MOST 1048576: true; the input reads as it did. -/
def sealPartsUptoRow : OpenClaim := { program := "ytopdcjekdmaopaa", sum := "2a469f191af4ea4f2983548086145131734909c69998eef968199ae8373fcc62", func := "deedhold/deedholdlaw03.SealParts", spec := "sealParts", apart := false, narrowed := true }
def SealPartsUptoSaid : Prop := sealPartsUptoRow.holds Try.pinned (OpenSpec.upto sealPartsSpec)

/-- 'deedholdlaw03.SealOwn', WHERE WHAT IT READS IS OF BULK AT MOST 1048576: true; the input reads as it did. -/
def sealOwnUptoRow : OpenClaim := { program := "ytopdcjekdmaopaa", sum := "2a469f191af4ea4f2983548086145131734909c69998eef968199ae8373fcc62", func := "deedhold/deedholdlaw03.SealOwn", spec := "sealOwn", apart := false, narrowed := true }
def SealOwnUptoSaid : Prop := sealOwnUptoRow.holds Try.pinned (OpenSpec.upto sealOwnSpec)

/-- 'deedholdlaw22.ChestMay', WHERE WHAT IT READS IS OF BULK AT MOST 1048576: true; the input reads as it did. -/
def chestMayUptoRow : OpenClaim := { program := "ytopdcjekdmaopaa", sum := "2a469f191af4ea4f2983548086145131734909c69998eef968199ae8373fcc62", func := "deedhold/deedholdlaw22.ChestMay", spec := "chestMay", apart := false, narrowed := true }
def ChestMayUptoSaid : Prop := chestMayUptoRow.holds Try.pinned (OpenSpec.upto chestMaySpec)

end Rows
end Go.Proofs.Ytopdcjekdmaopaa
