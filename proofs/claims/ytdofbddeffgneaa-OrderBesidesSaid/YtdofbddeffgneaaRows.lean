/-
  No cell of these rows narrows 'for every input' (looked for: loops, veiled, ifaces, maps, wideKeys, modest, calm, conditions, laid).
  DERIVED. THE GIVEN ROWS OF THIS SEAT. 11 by the template 'for every input the law returns true; each argument reads behind the call as it read before'; 0 by the template 'total and deterministic' (their statements: YtdofbddeffgneaaTotals.lean).
  GIVEN WITH THE SEED: the statements are not yours to turn. If you find one false, say at which input.
  Laid BY PROGRAM, IN A SANDBOX (cutbox-rows.mjs): the forced cells as the released guide's own fill.sh prints them over the translation 5208839ddc5b899d… (all of the seat's roots in one cut). By AI agents, Wed Nov 11 2026. No macro, syntax, notation, axiom, sorry.
-/
import Derived.Test.YtdofbddeffgneaaChecked
import GoSem.Claim
import GoSem.ClaimJoined
import GoSem.ClaimMapViews
import Derived.JoinedTies
import Derived.KernelRfl
namespace Go.Proofs.Ytdofbddeffgneaa
/- THE CELL 'sum', in the pinned program and in every row, IS THE sha256 OF THE DUMP (.gsa) THAT YtdofbddeffgneaaProg.lean LOADS. Nothing in Lean hashes anything: it is a label: what it is worth is what the hold of that sum in a sandbox is worth. -/
noncomputable def Try.pinned : Pinned := { name := "ytdofbddeffgneaa", sum := "5208839ddc5b899dc1a077e0a52535fdac8e4a9f8414873c702ccb0f631d1909", checked := Try.checked }
namespace Rows
def none {H : Type} : Left H := { results := [], args := [] }

/-- 'hasselaw.WeighDaykin': WHATEVER THE INPUT: true; the input reads as it did. -/
def weighDaykinSpec : ChangeSpec := { name := "weighDaykin", fn := fun _ => fun
  | [d1, d2, d3, d4, d5] => { results := [.lit (.bool true)], args := [d1, d2, d3, d4, d5] }
  | _ => none }
def weighDaykinRow : OpenClaim := { program := "ytdofbddeffgneaa", sum := "5208839ddc5b899dc1a077e0a52535fdac8e4a9f8414873c702ccb0f631d1909", func := "hasse/hasselaw.WeighDaykin", spec := "weighDaykin", unfollowed := true, recurses := true, apart := false }
def WeighDaykinSaid : Prop := weighDaykinRow.holds Try.pinned (OpenSpec.ofChange weighDaykinSpec)

/-- ITS FALSE NEIGHBOUR: 'it returns false'. Refute it at one input. -/
def weighDaykinWrong : ChangeSpec := { name := "weighDaykin", fn := fun _ => fun
  | [d1, d2, d3, d4, d5] => { results := [.lit (.bool false)], args := [d1, d2, d3, d4, d5] }
  | _ => none }
def WeighDaykinWrongFalsely : Prop := weighDaykinRow.holds Try.pinned (OpenSpec.ofChange weighDaykinWrong)

/-- 'hasselaw.OrderEnds': WHATEVER THE INPUT: true; the input reads as it did. -/
def orderEndsSpec : ChangeSpec := { name := "orderEnds", fn := fun _ => fun
  | [d] => { results := [.lit (.bool true)], args := [d] }
  | _ => none }
def orderEndsRow : OpenClaim := { program := "ytdofbddeffgneaa", sum := "5208839ddc5b899dc1a077e0a52535fdac8e4a9f8414873c702ccb0f631d1909", func := "hasse/hasselaw.OrderEnds", spec := "orderEnds", apart := false }
def OrderEndsSaid : Prop := orderEndsRow.holds Try.pinned (OpenSpec.ofChange orderEndsSpec)

/-- ITS FALSE NEIGHBOUR: 'it returns false'. Refute it at one input. -/
def orderEndsWrong : ChangeSpec := { name := "orderEnds", fn := fun _ => fun
  | [d] => { results := [.lit (.bool false)], args := [d] }
  | _ => none }
def OrderEndsWrongFalsely : Prop := orderEndsRow.holds Try.pinned (OpenSpec.ofChange orderEndsWrong)

/-- 'hasselaw.OrderTimes': WHATEVER THE INPUT: true; the input reads as it did. -/
def orderTimesSpec : ChangeSpec := { name := "orderTimes", fn := fun _ => fun
  | [d1, d2] => { results := [.lit (.bool true)], args := [d1, d2] }
  | _ => none }
def orderTimesRow : OpenClaim := { program := "ytdofbddeffgneaa", sum := "5208839ddc5b899dc1a077e0a52535fdac8e4a9f8414873c702ccb0f631d1909", func := "hasse/hasselaw.OrderTimes", spec := "orderTimes", unfollowed := true, recurses := true, apart := false }
def OrderTimesSaid : Prop := orderTimesRow.holds Try.pinned (OpenSpec.ofChange orderTimesSpec)

/-- ITS FALSE NEIGHBOUR: 'it returns false'. Refute it at one input. -/
def orderTimesWrong : ChangeSpec := { name := "orderTimes", fn := fun _ => fun
  | [d1, d2] => { results := [.lit (.bool false)], args := [d1, d2] }
  | _ => none }
def OrderTimesWrongFalsely : Prop := orderTimesRow.holds Try.pinned (OpenSpec.ofChange orderTimesWrong)

/-- 'hasselaw.OrderIdeals': WHATEVER THE INPUT: true; the input reads as it did. -/
def orderIdealsSpec : ChangeSpec := { name := "orderIdeals", fn := fun _ => fun
  | [d] => { results := [.lit (.bool true)], args := [d] }
  | _ => none }
def orderIdealsRow : OpenClaim := { program := "ytdofbddeffgneaa", sum := "5208839ddc5b899dc1a077e0a52535fdac8e4a9f8414873c702ccb0f631d1909", func := "hasse/hasselaw.OrderIdeals", spec := "orderIdeals", apart := false }
def OrderIdealsSaid : Prop := orderIdealsRow.holds Try.pinned (OpenSpec.ofChange orderIdealsSpec)

/-- ITS FALSE NEIGHBOUR: 'it returns false'. Refute it at one input. -/
def orderIdealsWrong : ChangeSpec := { name := "orderIdeals", fn := fun _ => fun
  | [d] => { results := [.lit (.bool false)], args := [d] }
  | _ => none }
def OrderIdealsWrongFalsely : Prop := orderIdealsRow.holds Try.pinned (OpenSpec.ofChange orderIdealsWrong)

/-- 'hasselaw.OrderCovers': WHATEVER THE INPUT: true; the input reads as it did. -/
def orderCoversSpec : ChangeSpec := { name := "orderCovers", fn := fun _ => fun
  | [d] => { results := [.lit (.bool true)], args := [d] }
  | _ => none }
def orderCoversRow : OpenClaim := { program := "ytdofbddeffgneaa", sum := "5208839ddc5b899dc1a077e0a52535fdac8e4a9f8414873c702ccb0f631d1909", func := "hasse/hasselaw.OrderCovers", spec := "orderCovers", apart := false }
def OrderCoversSaid : Prop := orderCoversRow.holds Try.pinned (OpenSpec.ofChange orderCoversSpec)

/-- ITS FALSE NEIGHBOUR: 'it returns false'. Refute it at one input. -/
def orderCoversWrong : ChangeSpec := { name := "orderCovers", fn := fun _ => fun
  | [d] => { results := [.lit (.bool false)], args := [d] }
  | _ => none }
def OrderCoversWrongFalsely : Prop := orderCoversRow.holds Try.pinned (OpenSpec.ofChange orderCoversWrong)

/-- 'hasselaw.OrderReduces': WHATEVER THE INPUT: true; the input reads as it did. -/
def orderReducesSpec : ChangeSpec := { name := "orderReduces", fn := fun _ => fun
  | [d1, d2] => { results := [.lit (.bool true)], args := [d1, d2] }
  | _ => none }
def orderReducesRow : OpenClaim := { program := "ytdofbddeffgneaa", sum := "5208839ddc5b899dc1a077e0a52535fdac8e4a9f8414873c702ccb0f631d1909", func := "hasse/hasselaw.OrderReduces", spec := "orderReduces", apart := false }
def OrderReducesSaid : Prop := orderReducesRow.holds Try.pinned (OpenSpec.ofChange orderReducesSpec)

/-- ITS FALSE NEIGHBOUR: 'it returns false'. Refute it at one input. -/
def orderReducesWrong : ChangeSpec := { name := "orderReduces", fn := fun _ => fun
  | [d1, d2] => { results := [.lit (.bool false)], args := [d1, d2] }
  | _ => none }
def OrderReducesWrongFalsely : Prop := orderReducesRow.holds Try.pinned (OpenSpec.ofChange orderReducesWrong)

/-- 'hasselaw.OrderBesides': WHATEVER THE INPUT: true; the input reads as it did. -/
def orderBesidesSpec : ChangeSpec := { name := "orderBesides", fn := fun _ => fun
  | [d1, d2] => { results := [.lit (.bool true)], args := [d1, d2] }
  | _ => none }
def orderBesidesRow : OpenClaim := { program := "ytdofbddeffgneaa", sum := "5208839ddc5b899dc1a077e0a52535fdac8e4a9f8414873c702ccb0f631d1909", func := "hasse/hasselaw.OrderBesides", spec := "orderBesides", unfollowed := true, recurses := true, apart := false }
def OrderBesidesSaid : Prop := orderBesidesRow.holds Try.pinned (OpenSpec.ofChange orderBesidesSpec)

/-- ITS FALSE NEIGHBOUR: 'it returns false'. Refute it at one input. -/
def orderBesidesWrong : ChangeSpec := { name := "orderBesides", fn := fun _ => fun
  | [d1, d2] => { results := [.lit (.bool false)], args := [d1, d2] }
  | _ => none }
def OrderBesidesWrongFalsely : Prop := orderBesidesRow.holds Try.pinned (OpenSpec.ofChange orderBesidesWrong)

/-- 'hasselaw.OrderDuals': WHATEVER THE INPUT: true; the input reads as it did. -/
def orderDualsSpec : ChangeSpec := { name := "orderDuals", fn := fun _ => fun
  | [d] => { results := [.lit (.bool true)], args := [d] }
  | _ => none }
def orderDualsRow : OpenClaim := { program := "ytdofbddeffgneaa", sum := "5208839ddc5b899dc1a077e0a52535fdac8e4a9f8414873c702ccb0f631d1909", func := "hasse/hasselaw.OrderDuals", spec := "orderDuals", unfollowed := true, recurses := true, apart := false }
def OrderDualsSaid : Prop := orderDualsRow.holds Try.pinned (OpenSpec.ofChange orderDualsSpec)

/-- ITS FALSE NEIGHBOUR: 'it returns false'. Refute it at one input. -/
def orderDualsWrong : ChangeSpec := { name := "orderDuals", fn := fun _ => fun
  | [d] => { results := [.lit (.bool false)], args := [d] }
  | _ => none }
def OrderDualsWrongFalsely : Prop := orderDualsRow.holds Try.pinned (OpenSpec.ofChange orderDualsWrong)

/-- 'hasselaw.OrderSides': WHATEVER THE INPUT: true; the input reads as it did. -/
def orderSidesSpec : ChangeSpec := { name := "orderSides", fn := fun _ => fun
  | [d1, d2] => { results := [.lit (.bool true)], args := [d1, d2] }
  | _ => none }
def orderSidesRow : OpenClaim := { program := "ytdofbddeffgneaa", sum := "5208839ddc5b899dc1a077e0a52535fdac8e4a9f8414873c702ccb0f631d1909", func := "hasse/hasselaw.OrderSides", spec := "orderSides", apart := false }
def OrderSidesSaid : Prop := orderSidesRow.holds Try.pinned (OpenSpec.ofChange orderSidesSpec)

/-- ITS FALSE NEIGHBOUR: 'it returns false'. Refute it at one input. -/
def orderSidesWrong : ChangeSpec := { name := "orderSides", fn := fun _ => fun
  | [d1, d2] => { results := [.lit (.bool false)], args := [d1, d2] }
  | _ => none }
def OrderSidesWrongFalsely : Prop := orderSidesRow.holds Try.pinned (OpenSpec.ofChange orderSidesWrong)

/-- 'hasselaw.OrderTwice': WHATEVER THE INPUT: true; the input reads as it did. -/
def orderTwiceSpec : ChangeSpec := { name := "orderTwice", fn := fun _ => fun
  | [d] => { results := [.lit (.bool true)], args := [d] }
  | _ => none }
def orderTwiceRow : OpenClaim := { program := "ytdofbddeffgneaa", sum := "5208839ddc5b899dc1a077e0a52535fdac8e4a9f8414873c702ccb0f631d1909", func := "hasse/hasselaw.OrderTwice", spec := "orderTwice", apart := false }
def OrderTwiceSaid : Prop := orderTwiceRow.holds Try.pinned (OpenSpec.ofChange orderTwiceSpec)

/-- ITS FALSE NEIGHBOUR: 'it returns false'. Refute it at one input. -/
def orderTwiceWrong : ChangeSpec := { name := "orderTwice", fn := fun _ => fun
  | [d] => { results := [.lit (.bool false)], args := [d] }
  | _ => none }
def OrderTwiceWrongFalsely : Prop := orderTwiceRow.holds Try.pinned (OpenSpec.ofChange orderTwiceWrong)

/-- 'hasselaw.LevelGraded': WHATEVER THE INPUT: true; the input reads as it did. -/
def levelGradedSpec : ChangeSpec := { name := "levelGraded", fn := fun _ => fun
  | [d] => { results := [.lit (.bool true)], args := [d] }
  | _ => none }
def levelGradedRow : OpenClaim := { program := "ytdofbddeffgneaa", sum := "5208839ddc5b899dc1a077e0a52535fdac8e4a9f8414873c702ccb0f631d1909", func := "hasse/hasselaw.LevelGraded", spec := "levelGraded", recurses := true, apart := false }
def LevelGradedSaid : Prop := levelGradedRow.holds Try.pinned (OpenSpec.ofChange levelGradedSpec)

/-- ITS FALSE NEIGHBOUR: 'it returns false'. Refute it at one input. -/
def levelGradedWrong : ChangeSpec := { name := "levelGraded", fn := fun _ => fun
  | [d] => { results := [.lit (.bool false)], args := [d] }
  | _ => none }
def LevelGradedWrongFalsely : Prop := levelGradedRow.holds Try.pinned (OpenSpec.ofChange levelGradedWrong)

/- THE SECOND FORM. 'bulk': how many values and letters a reading holds, each counted each time it is reached (what is shared counts as often as it is met; a slice's spare places count too). A statement '..UptoSaid' is the law's where the arguments, and the package variables that the reading takes, are together of bulk at most 1048576: NARROWER than '..Said'. Prove '..Said' where nothing that the law and all that it calls make is longer than what came in: it says more and counts as full. Else prove '..UptoSaid'. A law counts once. -/
mutual
def uptoBulk {H : Type} : DataW H → Nat
  | .lit (.string bytes) => bytes.length + 1
  | .lit _ => 1
  | .nil => 1
  | .ptr d => uptoBulk d + 1
  | .slice elems spare => uptoBulkAll elems + uptoBulkAll spare + 1
  | .agg parts => uptoBulkAll parts + 1
  | .iface _ d => uptoBulk d + 1
  | .map entries => uptoBulkEntries entries + 1
  | .held _ => 1
def uptoBulkAll {H : Type} : List (DataW H) → Nat
  | [] => 0
  | d :: r => uptoBulk d + uptoBulkAll r
def uptoBulkEntries {H : Type} : List (Lit × DataW H) → Nat
  | [] => 0
  | x :: r => uptoBulkEntry x + uptoBulkEntries r
def uptoBulkEntry {H : Type} : Lit × DataW H → Nat
  | (.string bytes, d) => bytes.length + uptoBulk d + 1
  | (_, d) => uptoBulk d + 1
 end
def uptoSmall : (H : Type) → List (DataW H) → Bool := fun _ ds => decide (uptoBulkAll ds ≤ 1048576)
def OpenSpec.upto (s : _root_.Go.ChangeSpec) : _root_.Go.OpenSpec := { _root_.Go.OpenSpec.ofChange s with cond := some uptoSmall }

/-- 'hasselaw.WeighDaykin', WHERE WHAT IT READS IS OF BULK AT MOST 1048576: true; the input reads as it did. -/
def weighDaykinUptoRow : OpenClaim := { program := "ytdofbddeffgneaa", sum := "5208839ddc5b899dc1a077e0a52535fdac8e4a9f8414873c702ccb0f631d1909", func := "hasse/hasselaw.WeighDaykin", spec := "weighDaykin", unfollowed := true, recurses := true, apart := false, narrowed := true }
def WeighDaykinUptoSaid : Prop := weighDaykinUptoRow.holds Try.pinned (OpenSpec.upto weighDaykinSpec)

/-- 'hasselaw.OrderEnds', WHERE WHAT IT READS IS OF BULK AT MOST 1048576: true; the input reads as it did. -/
def orderEndsUptoRow : OpenClaim := { program := "ytdofbddeffgneaa", sum := "5208839ddc5b899dc1a077e0a52535fdac8e4a9f8414873c702ccb0f631d1909", func := "hasse/hasselaw.OrderEnds", spec := "orderEnds", apart := false, narrowed := true }
def OrderEndsUptoSaid : Prop := orderEndsUptoRow.holds Try.pinned (OpenSpec.upto orderEndsSpec)

/-- 'hasselaw.OrderTimes', WHERE WHAT IT READS IS OF BULK AT MOST 1048576: true; the input reads as it did. -/
def orderTimesUptoRow : OpenClaim := { program := "ytdofbddeffgneaa", sum := "5208839ddc5b899dc1a077e0a52535fdac8e4a9f8414873c702ccb0f631d1909", func := "hasse/hasselaw.OrderTimes", spec := "orderTimes", unfollowed := true, recurses := true, apart := false, narrowed := true }
def OrderTimesUptoSaid : Prop := orderTimesUptoRow.holds Try.pinned (OpenSpec.upto orderTimesSpec)

/-- 'hasselaw.OrderIdeals', WHERE WHAT IT READS IS OF BULK AT MOST 1048576: true; the input reads as it did. -/
def orderIdealsUptoRow : OpenClaim := { program := "ytdofbddeffgneaa", sum := "5208839ddc5b899dc1a077e0a52535fdac8e4a9f8414873c702ccb0f631d1909", func := "hasse/hasselaw.OrderIdeals", spec := "orderIdeals", apart := false, narrowed := true }
def OrderIdealsUptoSaid : Prop := orderIdealsUptoRow.holds Try.pinned (OpenSpec.upto orderIdealsSpec)

/-- 'hasselaw.OrderCovers', WHERE WHAT IT READS IS OF BULK AT MOST 1048576: true; the input reads as it did. -/
def orderCoversUptoRow : OpenClaim := { program := "ytdofbddeffgneaa", sum := "5208839ddc5b899dc1a077e0a52535fdac8e4a9f8414873c702ccb0f631d1909", func := "hasse/hasselaw.OrderCovers", spec := "orderCovers", apart := false, narrowed := true }
def OrderCoversUptoSaid : Prop := orderCoversUptoRow.holds Try.pinned (OpenSpec.upto orderCoversSpec)

/-- 'hasselaw.OrderReduces', WHERE WHAT IT READS IS OF BULK AT MOST 1048576: true; the input reads as it did. -/
def orderReducesUptoRow : OpenClaim := { program := "ytdofbddeffgneaa", sum := "5208839ddc5b899dc1a077e0a52535fdac8e4a9f8414873c702ccb0f631d1909", func := "hasse/hasselaw.OrderReduces", spec := "orderReduces", apart := false, narrowed := true }
def OrderReducesUptoSaid : Prop := orderReducesUptoRow.holds Try.pinned (OpenSpec.upto orderReducesSpec)

/-- 'hasselaw.OrderBesides', WHERE WHAT IT READS IS OF BULK AT MOST 1048576: true; the input reads as it did. -/
def orderBesidesUptoRow : OpenClaim := { program := "ytdofbddeffgneaa", sum := "5208839ddc5b899dc1a077e0a52535fdac8e4a9f8414873c702ccb0f631d1909", func := "hasse/hasselaw.OrderBesides", spec := "orderBesides", unfollowed := true, recurses := true, apart := false, narrowed := true }
def OrderBesidesUptoSaid : Prop := orderBesidesUptoRow.holds Try.pinned (OpenSpec.upto orderBesidesSpec)

/-- 'hasselaw.OrderDuals', WHERE WHAT IT READS IS OF BULK AT MOST 1048576: true; the input reads as it did. -/
def orderDualsUptoRow : OpenClaim := { program := "ytdofbddeffgneaa", sum := "5208839ddc5b899dc1a077e0a52535fdac8e4a9f8414873c702ccb0f631d1909", func := "hasse/hasselaw.OrderDuals", spec := "orderDuals", unfollowed := true, recurses := true, apart := false, narrowed := true }
def OrderDualsUptoSaid : Prop := orderDualsUptoRow.holds Try.pinned (OpenSpec.upto orderDualsSpec)

/-- 'hasselaw.OrderSides', WHERE WHAT IT READS IS OF BULK AT MOST 1048576: true; the input reads as it did. -/
def orderSidesUptoRow : OpenClaim := { program := "ytdofbddeffgneaa", sum := "5208839ddc5b899dc1a077e0a52535fdac8e4a9f8414873c702ccb0f631d1909", func := "hasse/hasselaw.OrderSides", spec := "orderSides", apart := false, narrowed := true }
def OrderSidesUptoSaid : Prop := orderSidesUptoRow.holds Try.pinned (OpenSpec.upto orderSidesSpec)

/-- 'hasselaw.OrderTwice', WHERE WHAT IT READS IS OF BULK AT MOST 1048576: true; the input reads as it did. -/
def orderTwiceUptoRow : OpenClaim := { program := "ytdofbddeffgneaa", sum := "5208839ddc5b899dc1a077e0a52535fdac8e4a9f8414873c702ccb0f631d1909", func := "hasse/hasselaw.OrderTwice", spec := "orderTwice", apart := false, narrowed := true }
def OrderTwiceUptoSaid : Prop := orderTwiceUptoRow.holds Try.pinned (OpenSpec.upto orderTwiceSpec)

/-- 'hasselaw.LevelGraded', WHERE WHAT IT READS IS OF BULK AT MOST 1048576: true; the input reads as it did. -/
def levelGradedUptoRow : OpenClaim := { program := "ytdofbddeffgneaa", sum := "5208839ddc5b899dc1a077e0a52535fdac8e4a9f8414873c702ccb0f631d1909", func := "hasse/hasselaw.LevelGraded", spec := "levelGraded", recurses := true, apart := false, narrowed := true }
def LevelGradedUptoSaid : Prop := levelGradedUptoRow.holds Try.pinned (OpenSpec.upto levelGradedSpec)

end Rows
end Go.Proofs.Ytdofbddeffgneaa
