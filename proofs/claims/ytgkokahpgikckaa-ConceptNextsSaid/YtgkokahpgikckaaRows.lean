/-
  No cell of these rows narrows 'for every input' (looked for: loops, veiled, ifaces, maps, wideKeys, modest, calm, conditions, laid).
  DERIVED. THE GIVEN ROWS OF THIS SEAT. 12 by the template 'for every input the law returns true; each argument reads behind the call as it read before'; 0 by the template 'total and deterministic' (their statements: YtgkokahpgikckaaTotals.lean).
  GIVEN WITH THE SEED: the statements are not yours to turn. If you find one false, say at which input.
  Laid BY PROGRAM, IN A SANDBOX (cutbox-rows.mjs): the forced cells as the released guide's own fill.sh prints them over the translation c759ba3c6ae4c45d… (all of the seat's roots in one cut). By AI agents, Wed Nov 11 2026. No macro, syntax, notation, axiom, sorry.
-/
import Derived.Test.YtgkokahpgikckaaChecked
import GoSem.Claim
import GoSem.ClaimJoined
import GoSem.ClaimMapViews
import Derived.JoinedTies
import Derived.KernelRfl
namespace Go.Proofs.Ytgkokahpgikckaa
/- THE CELL 'sum', in the pinned program and in every row, IS THE sha256 OF THE DUMP (.gsa) THAT YtgkokahpgikckaaProg.lean LOADS. Nothing in Lean hashes anything: it is a label: what it is worth is what the hold of that sum in a sandbox is worth. -/
noncomputable def Try.pinned : Pinned := { name := "ytgkokahpgikckaa", sum := "c759ba3c6ae4c45da7850a11718304af72bd4f542fa3124fe5d12f7a828cf9d7", checked := Try.checked }
namespace Rows
def none {H : Type} : Left H := { results := [], args := [] }

/-- 'hasselaw.LevelHeights': WHATEVER THE INPUT: true; the input reads as it did. -/
def levelHeightsSpec : ChangeSpec := { name := "levelHeights", fn := fun _ => fun
  | [d] => { results := [.lit (.bool true)], args := [d] }
  | _ => none }
def levelHeightsRow : OpenClaim := { program := "ytgkokahpgikckaa", sum := "c759ba3c6ae4c45da7850a11718304af72bd4f542fa3124fe5d12f7a828cf9d7", func := "hasse/hasselaw.LevelHeights", spec := "levelHeights", recurses := true, apart := false }
def LevelHeightsSaid : Prop := levelHeightsRow.holds Try.pinned (OpenSpec.ofChange levelHeightsSpec)

/-- ITS FALSE NEIGHBOUR: 'it returns false'. Refute it at one input. -/
def levelHeightsWrong : ChangeSpec := { name := "levelHeights", fn := fun _ => fun
  | [d] => { results := [.lit (.bool false)], args := [d] }
  | _ => none }
def LevelHeightsWrongFalsely : Prop := levelHeightsRow.holds Try.pinned (OpenSpec.ofChange levelHeightsWrong)

/-- 'hasselaw.LevelSets': WHATEVER THE INPUT: true; the input reads as it did. -/
def levelSetsSpec : ChangeSpec := { name := "levelSets", fn := fun _ => fun
  | [d] => { results := [.lit (.bool true)], args := [d] }
  | _ => none }
def levelSetsRow : OpenClaim := { program := "ytgkokahpgikckaa", sum := "c759ba3c6ae4c45da7850a11718304af72bd4f542fa3124fe5d12f7a828cf9d7", func := "hasse/hasselaw.LevelSets", spec := "levelSets", recurses := true, apart := false }
def LevelSetsSaid : Prop := levelSetsRow.holds Try.pinned (OpenSpec.ofChange levelSetsSpec)

/-- ITS FALSE NEIGHBOUR: 'it returns false'. Refute it at one input. -/
def levelSetsWrong : ChangeSpec := { name := "levelSets", fn := fun _ => fun
  | [d] => { results := [.lit (.bool false)], args := [d] }
  | _ => none }
def LevelSetsWrongFalsely : Prop := levelSetsRow.holds Try.pinned (OpenSpec.ofChange levelSetsWrong)

/-- 'hasselaw.OrderChecks': WHATEVER THE INPUT: true; the input reads as it did. -/
def orderChecksSpec : ChangeSpec := { name := "orderChecks", fn := fun _ => fun
  | [d] => { results := [.lit (.bool true)], args := [d] }
  | _ => none }
def orderChecksRow : OpenClaim := { program := "ytgkokahpgikckaa", sum := "c759ba3c6ae4c45da7850a11718304af72bd4f542fa3124fe5d12f7a828cf9d7", func := "hasse/hasselaw.OrderChecks", spec := "orderChecks", apart := false }
def OrderChecksSaid : Prop := orderChecksRow.holds Try.pinned (OpenSpec.ofChange orderChecksSpec)

/-- ITS FALSE NEIGHBOUR: 'it returns false'. Refute it at one input. -/
def orderChecksWrong : ChangeSpec := { name := "orderChecks", fn := fun _ => fun
  | [d] => { results := [.lit (.bool false)], args := [d] }
  | _ => none }
def OrderChecksWrongFalsely : Prop := orderChecksRow.holds Try.pinned (OpenSpec.ofChange orderChecksWrong)

/-- 'hasselaw.OrderMakes': WHATEVER THE INPUT: true; the input reads as it did. -/
def orderMakesSpec : ChangeSpec := { name := "orderMakes", fn := fun _ => fun
  | [d1, d2] => { results := [.lit (.bool true)], args := [d1, d2] }
  | _ => none }
def orderMakesRow : OpenClaim := { program := "ytgkokahpgikckaa", sum := "c759ba3c6ae4c45da7850a11718304af72bd4f542fa3124fe5d12f7a828cf9d7", func := "hasse/hasselaw.OrderMakes", spec := "orderMakes", unfollowed := true, recurses := true, apart := false }
def OrderMakesSaid : Prop := orderMakesRow.holds Try.pinned (OpenSpec.ofChange orderMakesSpec)

/-- ITS FALSE NEIGHBOUR: 'it returns false'. Refute it at one input. -/
def orderMakesWrong : ChangeSpec := { name := "orderMakes", fn := fun _ => fun
  | [d1, d2] => { results := [.lit (.bool false)], args := [d1, d2] }
  | _ => none }
def OrderMakesWrongFalsely : Prop := orderMakesRow.holds Try.pinned (OpenSpec.ofChange orderMakesWrong)

/-- 'hasselaw.WeighRises': WHATEVER THE INPUT: true; the input reads as it did. -/
def weighRisesSpec : ChangeSpec := { name := "weighRises", fn := fun _ => fun
  | [d1, d2] => { results := [.lit (.bool true)], args := [d1, d2] }
  | _ => none }
def weighRisesRow : OpenClaim := { program := "ytgkokahpgikckaa", sum := "c759ba3c6ae4c45da7850a11718304af72bd4f542fa3124fe5d12f7a828cf9d7", func := "hasse/hasselaw.WeighRises", spec := "weighRises", unfollowed := true, recurses := true, apart := false }
def WeighRisesSaid : Prop := weighRisesRow.holds Try.pinned (OpenSpec.ofChange weighRisesSpec)

/-- ITS FALSE NEIGHBOUR: 'it returns false'. Refute it at one input. -/
def weighRisesWrong : ChangeSpec := { name := "weighRises", fn := fun _ => fun
  | [d1, d2] => { results := [.lit (.bool false)], args := [d1, d2] }
  | _ => none }
def WeighRisesWrongFalsely : Prop := weighRisesRow.holds Try.pinned (OpenSpec.ofChange weighRisesWrong)

/-- 'hasselaw.WeighCurved': WHATEVER THE INPUT: true; the input reads as it did. -/
def weighCurvedSpec : ChangeSpec := { name := "weighCurved", fn := fun _ => fun
  | [d1, d2] => { results := [.lit (.bool true)], args := [d1, d2] }
  | _ => none }
def weighCurvedRow : OpenClaim := { program := "ytgkokahpgikckaa", sum := "c759ba3c6ae4c45da7850a11718304af72bd4f542fa3124fe5d12f7a828cf9d7", func := "hasse/hasselaw.WeighCurved", spec := "weighCurved", unfollowed := true, recurses := true, apart := false }
def WeighCurvedSaid : Prop := weighCurvedRow.holds Try.pinned (OpenSpec.ofChange weighCurvedSpec)

/-- ITS FALSE NEIGHBOUR: 'it returns false'. Refute it at one input. -/
def weighCurvedWrong : ChangeSpec := { name := "weighCurved", fn := fun _ => fun
  | [d1, d2] => { results := [.lit (.bool false)], args := [d1, d2] }
  | _ => none }
def WeighCurvedWrongFalsely : Prop := weighCurvedRow.holds Try.pinned (OpenSpec.ofChange weighCurvedWrong)

/-- 'hasselaw.WeighSums': WHATEVER THE INPUT: true; the input reads as it did. -/
def weighSumsSpec : ChangeSpec := { name := "weighSums", fn := fun _ => fun
  | [d1, d2, d3, d4] => { results := [.lit (.bool true)], args := [d1, d2, d3, d4] }
  | _ => none }
def weighSumsRow : OpenClaim := { program := "ytgkokahpgikckaa", sum := "c759ba3c6ae4c45da7850a11718304af72bd4f542fa3124fe5d12f7a828cf9d7", func := "hasse/hasselaw.WeighSums", spec := "weighSums", unfollowed := true, recurses := true, apart := false }
def WeighSumsSaid : Prop := weighSumsRow.holds Try.pinned (OpenSpec.ofChange weighSumsSpec)

/-- ITS FALSE NEIGHBOUR: 'it returns false'. Refute it at one input. -/
def weighSumsWrong : ChangeSpec := { name := "weighSums", fn := fun _ => fun
  | [d1, d2, d3, d4] => { results := [.lit (.bool false)], args := [d1, d2, d3, d4] }
  | _ => none }
def WeighSumsWrongFalsely : Prop := weighSumsRow.holds Try.pinned (OpenSpec.ofChange weighSumsWrong)

/-- 'hasselaw.WeighHarris': WHATEVER THE INPUT: true; the input reads as it did. -/
def weighHarrisSpec : ChangeSpec := { name := "weighHarris", fn := fun _ => fun
  | [d1, d2, d3, d4] => { results := [.lit (.bool true)], args := [d1, d2, d3, d4] }
  | _ => none }
def weighHarrisRow : OpenClaim := { program := "ytgkokahpgikckaa", sum := "c759ba3c6ae4c45da7850a11718304af72bd4f542fa3124fe5d12f7a828cf9d7", func := "hasse/hasselaw.WeighHarris", spec := "weighHarris", unfollowed := true, recurses := true, apart := false }
def WeighHarrisSaid : Prop := weighHarrisRow.holds Try.pinned (OpenSpec.ofChange weighHarrisSpec)

/-- ITS FALSE NEIGHBOUR: 'it returns false'. Refute it at one input. -/
def weighHarrisWrong : ChangeSpec := { name := "weighHarris", fn := fun _ => fun
  | [d1, d2, d3, d4] => { results := [.lit (.bool false)], args := [d1, d2, d3, d4] }
  | _ => none }
def WeighHarrisWrongFalsely : Prop := weighHarrisRow.holds Try.pinned (OpenSpec.ofChange weighHarrisWrong)

/-- 'hasselaw.ConceptChecks': WHATEVER THE INPUT: true; the input reads as it did. -/
def conceptChecksSpec : ChangeSpec := { name := "conceptChecks", fn := fun _ => fun
  | [d] => { results := [.lit (.bool true)], args := [d] }
  | _ => none }
def conceptChecksRow : OpenClaim := { program := "ytgkokahpgikckaa", sum := "c759ba3c6ae4c45da7850a11718304af72bd4f542fa3124fe5d12f7a828cf9d7", func := "hasse/hasselaw.ConceptChecks", spec := "conceptChecks", unfollowed := true, recurses := true, apart := false }
def ConceptChecksSaid : Prop := conceptChecksRow.holds Try.pinned (OpenSpec.ofChange conceptChecksSpec)

/-- ITS FALSE NEIGHBOUR: 'it returns false'. Refute it at one input. -/
def conceptChecksWrong : ChangeSpec := { name := "conceptChecks", fn := fun _ => fun
  | [d] => { results := [.lit (.bool false)], args := [d] }
  | _ => none }
def ConceptChecksWrongFalsely : Prop := conceptChecksRow.holds Try.pinned (OpenSpec.ofChange conceptChecksWrong)

/-- 'hasselaw.ConceptConcepts': WHATEVER THE INPUT: true; the input reads as it did. -/
def conceptConceptsSpec : ChangeSpec := { name := "conceptConcepts", fn := fun _ => fun
  | [d] => { results := [.lit (.bool true)], args := [d] }
  | _ => none }
def conceptConceptsRow : OpenClaim := { program := "ytgkokahpgikckaa", sum := "c759ba3c6ae4c45da7850a11718304af72bd4f542fa3124fe5d12f7a828cf9d7", func := "hasse/hasselaw.ConceptConcepts", spec := "conceptConcepts", unfollowed := true, recurses := true, apart := false }
def ConceptConceptsSaid : Prop := conceptConceptsRow.holds Try.pinned (OpenSpec.ofChange conceptConceptsSpec)

/-- ITS FALSE NEIGHBOUR: 'it returns false'. Refute it at one input. -/
def conceptConceptsWrong : ChangeSpec := { name := "conceptConcepts", fn := fun _ => fun
  | [d] => { results := [.lit (.bool false)], args := [d] }
  | _ => none }
def ConceptConceptsWrongFalsely : Prop := conceptConceptsRow.holds Try.pinned (OpenSpec.ofChange conceptConceptsWrong)

/-- 'hasselaw.ConceptNexts': WHATEVER THE INPUT: true; the input reads as it did. -/
def conceptNextsSpec : ChangeSpec := { name := "conceptNexts", fn := fun _ => fun
  | [d1, d2] => { results := [.lit (.bool true)], args := [d1, d2] }
  | _ => none }
def conceptNextsRow : OpenClaim := { program := "ytgkokahpgikckaa", sum := "c759ba3c6ae4c45da7850a11718304af72bd4f542fa3124fe5d12f7a828cf9d7", func := "hasse/hasselaw.ConceptNexts", spec := "conceptNexts", unfollowed := true, recurses := true, apart := false }
def ConceptNextsSaid : Prop := conceptNextsRow.holds Try.pinned (OpenSpec.ofChange conceptNextsSpec)

/-- ITS FALSE NEIGHBOUR: 'it returns false'. Refute it at one input. -/
def conceptNextsWrong : ChangeSpec := { name := "conceptNexts", fn := fun _ => fun
  | [d1, d2] => { results := [.lit (.bool false)], args := [d1, d2] }
  | _ => none }
def ConceptNextsWrongFalsely : Prop := conceptNextsRow.holds Try.pinned (OpenSpec.ofChange conceptNextsWrong)

/-- 'hasselaw.WeighFour': WHATEVER THE INPUT: true; the input reads as it did. -/
def weighFourSpec : ChangeSpec := { name := "weighFour", fn := fun _ => fun
  | [d1, d2, d3, d4, d5] => { results := [.lit (.bool true)], args := [d1, d2, d3, d4, d5] }
  | _ => none }
def weighFourRow : OpenClaim := { program := "ytgkokahpgikckaa", sum := "c759ba3c6ae4c45da7850a11718304af72bd4f542fa3124fe5d12f7a828cf9d7", func := "hasse/hasselaw.WeighFour", spec := "weighFour", unfollowed := true, recurses := true, apart := false }
def WeighFourSaid : Prop := weighFourRow.holds Try.pinned (OpenSpec.ofChange weighFourSpec)

/-- ITS FALSE NEIGHBOUR: 'it returns false'. Refute it at one input. -/
def weighFourWrong : ChangeSpec := { name := "weighFour", fn := fun _ => fun
  | [d1, d2, d3, d4, d5] => { results := [.lit (.bool false)], args := [d1, d2, d3, d4, d5] }
  | _ => none }
def WeighFourWrongFalsely : Prop := weighFourRow.holds Try.pinned (OpenSpec.ofChange weighFourWrong)

/- THE SECOND FORM. 'bulk': how many values and letters a reading holds, each counted each time it is reached (what is shared counts as often as it is met; a slice's spare places count too). A statement '..UptoSaid' is the law's where the arguments, and the package variables that the reading takes, are together of bulk at most 1048576: NARROWER than '..Said'. Prove '..Said' where nothing that the law and all that it calls make is longer than what came in: it says more and counts as full. Else prove '..UptoSaid'. A law counts once. -/
mutual
def uptoBulk {H : Type} : DataW H → Nat
  | .lit (.string bytes) => bytes.length + 1
  | .lit _ => 1
  | .nil => 1
  | .ptr d => uptoBulk d + 1
  | .slice elems spare => uptoBulkAll elems + uptoBulkAll spare + 1
  | .agg parts => uptoBulkAll parts + 1
  | .iface _ d => uptoBulk d + 1
  | .map entries => uptoBulkEntries entries + 1
  | .held _ => 1
def uptoBulkAll {H : Type} : List (DataW H) → Nat
  | [] => 0
  | d :: r => uptoBulk d + uptoBulkAll r
def uptoBulkEntries {H : Type} : List (Lit × DataW H) → Nat
  | [] => 0
  | x :: r => uptoBulkEntry x + uptoBulkEntries r
def uptoBulkEntry {H : Type} : Lit × DataW H → Nat
  | (.string bytes, d) => bytes.length + uptoBulk d + 1
  | (_, d) => uptoBulk d + 1
 end
def uptoSmall : (H : Type) → List (DataW H) → Bool := fun _ ds => decide (uptoBulkAll ds ≤ 1048576)
def OpenSpec.upto (s : _root_.Go.ChangeSpec) : _root_.Go.OpenSpec := { _root_.Go.OpenSpec.ofChange s with cond := some uptoSmall }

/-- 'hasselaw.LevelHeights', WHERE WHAT IT READS IS OF BULK AT MOST 1048576: true; the input reads as it did. -/
def levelHeightsUptoRow : OpenClaim := { program := "ytgkokahpgikckaa", sum := "c759ba3c6ae4c45da7850a11718304af72bd4f542fa3124fe5d12f7a828cf9d7", func := "hasse/hasselaw.LevelHeights", spec := "levelHeights", recurses := true, apart := false, narrowed := true }
def LevelHeightsUptoSaid : Prop := levelHeightsUptoRow.holds Try.pinned (OpenSpec.upto levelHeightsSpec)

/-- 'hasselaw.LevelSets', WHERE WHAT IT READS IS OF BULK AT MOST 1048576: true; the input reads as it did. -/
def levelSetsUptoRow : OpenClaim := { program := "ytgkokahpgikckaa", sum := "c759ba3c6ae4c45da7850a11718304af72bd4f542fa3124fe5d12f7a828cf9d7", func := "hasse/hasselaw.LevelSets", spec := "levelSets", recurses := true, apart := false, narrowed := true }
def LevelSetsUptoSaid : Prop := levelSetsUptoRow.holds Try.pinned (OpenSpec.upto levelSetsSpec)

/-- 'hasselaw.OrderChecks', WHERE WHAT IT READS IS OF BULK AT MOST 1048576: true; the input reads as it did. -/
def orderChecksUptoRow : OpenClaim := { program := "ytgkokahpgikckaa", sum := "c759ba3c6ae4c45da7850a11718304af72bd4f542fa3124fe5d12f7a828cf9d7", func := "hasse/hasselaw.OrderChecks", spec := "orderChecks", apart := false, narrowed := true }
def OrderChecksUptoSaid : Prop := orderChecksUptoRow.holds Try.pinned (OpenSpec.upto orderChecksSpec)

/-- 'hasselaw.OrderMakes', WHERE WHAT IT READS IS OF BULK AT MOST 1048576: true; the input reads as it did. -/
def orderMakesUptoRow : OpenClaim := { program := "ytgkokahpgikckaa", sum := "c759ba3c6ae4c45da7850a11718304af72bd4f542fa3124fe5d12f7a828cf9d7", func := "hasse/hasselaw.OrderMakes", spec := "orderMakes", unfollowed := true, recurses := true, apart := false, narrowed := true }
def OrderMakesUptoSaid : Prop := orderMakesUptoRow.holds Try.pinned (OpenSpec.upto orderMakesSpec)

/-- 'hasselaw.WeighRises', WHERE WHAT IT READS IS OF BULK AT MOST 1048576: true; the input reads as it did. -/
def weighRisesUptoRow : OpenClaim := { program := "ytgkokahpgikckaa", sum := "c759ba3c6ae4c45da7850a11718304af72bd4f542fa3124fe5d12f7a828cf9d7", func := "hasse/hasselaw.WeighRises", spec := "weighRises", unfollowed := true, recurses := true, apart := false, narrowed := true }
def WeighRisesUptoSaid : Prop := weighRisesUptoRow.holds Try.pinned (OpenSpec.upto weighRisesSpec)

/-- 'hasselaw.WeighCurved', WHERE WHAT IT READS IS OF BULK AT MOST 1048576: true; the input reads as it did. -/
def weighCurvedUptoRow : OpenClaim := { program := "ytgkokahpgikckaa", sum := "c759ba3c6ae4c45da7850a11718304af72bd4f542fa3124fe5d12f7a828cf9d7", func := "hasse/hasselaw.WeighCurved", spec := "weighCurved", unfollowed := true, recurses := true, apart := false, narrowed := true }
def WeighCurvedUptoSaid : Prop := weighCurvedUptoRow.holds Try.pinned (OpenSpec.upto weighCurvedSpec)

/-- 'hasselaw.WeighSums', WHERE WHAT IT READS IS OF BULK AT MOST 1048576: true; the input reads as it did. -/
def weighSumsUptoRow : OpenClaim := { program := "ytgkokahpgikckaa", sum := "c759ba3c6ae4c45da7850a11718304af72bd4f542fa3124fe5d12f7a828cf9d7", func := "hasse/hasselaw.WeighSums", spec := "weighSums", unfollowed := true, recurses := true, apart := false, narrowed := true }
def WeighSumsUptoSaid : Prop := weighSumsUptoRow.holds Try.pinned (OpenSpec.upto weighSumsSpec)

/-- 'hasselaw.WeighHarris', WHERE WHAT IT READS IS OF BULK AT MOST 1048576: true; the input reads as it did. -/
def weighHarrisUptoRow : OpenClaim := { program := "ytgkokahpgikckaa", sum := "c759ba3c6ae4c45da7850a11718304af72bd4f542fa3124fe5d12f7a828cf9d7", func := "hasse/hasselaw.WeighHarris", spec := "weighHarris", unfollowed := true, recurses := true, apart := false, narrowed := true }
def WeighHarrisUptoSaid : Prop := weighHarrisUptoRow.holds Try.pinned (OpenSpec.upto weighHarrisSpec)

/-- 'hasselaw.ConceptChecks', WHERE WHAT IT READS IS OF BULK AT MOST 1048576: true; the input reads as it did. -/
def conceptChecksUptoRow : OpenClaim := { program := "ytgkokahpgikckaa", sum := "c759ba3c6ae4c45da7850a11718304af72bd4f542fa3124fe5d12f7a828cf9d7", func := "hasse/hasselaw.ConceptChecks", spec := "conceptChecks", unfollowed := true, recurses := true, apart := false, narrowed := true }
def ConceptChecksUptoSaid : Prop := conceptChecksUptoRow.holds Try.pinned (OpenSpec.upto conceptChecksSpec)

/-- 'hasselaw.ConceptConcepts', WHERE WHAT IT READS IS OF BULK AT MOST 1048576: true; the input reads as it did. -/
def conceptConceptsUptoRow : OpenClaim := { program := "ytgkokahpgikckaa", sum := "c759ba3c6ae4c45da7850a11718304af72bd4f542fa3124fe5d12f7a828cf9d7", func := "hasse/hasselaw.ConceptConcepts", spec := "conceptConcepts", unfollowed := true, recurses := true, apart := false, narrowed := true }
def ConceptConceptsUptoSaid : Prop := conceptConceptsUptoRow.holds Try.pinned (OpenSpec.upto conceptConceptsSpec)

/-- 'hasselaw.ConceptNexts', WHERE WHAT IT READS IS OF BULK AT MOST 1048576: true; the input reads as it did. -/
def conceptNextsUptoRow : OpenClaim := { program := "ytgkokahpgikckaa", sum := "c759ba3c6ae4c45da7850a11718304af72bd4f542fa3124fe5d12f7a828cf9d7", func := "hasse/hasselaw.ConceptNexts", spec := "conceptNexts", unfollowed := true, recurses := true, apart := false, narrowed := true }
def ConceptNextsUptoSaid : Prop := conceptNextsUptoRow.holds Try.pinned (OpenSpec.upto conceptNextsSpec)

/-- 'hasselaw.WeighFour', WHERE WHAT IT READS IS OF BULK AT MOST 1048576: true; the input reads as it did. -/
def weighFourUptoRow : OpenClaim := { program := "ytgkokahpgikckaa", sum := "c759ba3c6ae4c45da7850a11718304af72bd4f542fa3124fe5d12f7a828cf9d7", func := "hasse/hasselaw.WeighFour", spec := "weighFour", unfollowed := true, recurses := true, apart := false, narrowed := true }
def WeighFourUptoSaid : Prop := weighFourUptoRow.holds Try.pinned (OpenSpec.upto weighFourSpec)

end Rows
end Go.Proofs.Ytgkokahpgikckaa
