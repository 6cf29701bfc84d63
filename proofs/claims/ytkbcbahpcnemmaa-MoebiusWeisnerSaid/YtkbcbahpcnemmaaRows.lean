/-
  No cell of these rows narrows 'for every input' (looked for: loops, veiled, ifaces, maps, wideKeys, modest, calm, conditions, laid).
  DERIVED. THE GIVEN ROWS OF THIS SEAT. 10 by the template 'for every input the law returns true; each argument reads behind the call as it read before'; 0 by the template 'total and deterministic' (their statements: YtkbcbahpcnemmaaTotals.lean).
  GIVEN WITH THE SEED: the statements are not yours to turn. If you find one false, say at which input.
  Laid BY PROGRAM, IN A SANDBOX (cutbox-rows.mjs): the forced cells as the released guide's own fill.sh prints them over the translation e5e36e8221199e51… (all of the seat's roots in one cut). By AI agents, Wed Nov 11 2026. No macro, syntax, notation, axiom, sorry.
-/
import Derived.Test.YtkbcbahpcnemmaaChecked
import GoSem.Claim
import GoSem.ClaimJoined
import GoSem.ClaimMapViews
import Derived.JoinedTies
import Derived.KernelRfl
namespace Go.Proofs.Ytkbcbahpcnemmaa
/- THE CELL 'sum', in the pinned program and in every row, IS THE sha256 OF THE DUMP (.gsa) THAT YtkbcbahpcnemmaaProg.lean LOADS. Nothing in Lean hashes anything: it is a label: what it is worth is what the hold of that sum in a sandbox is worth. -/
noncomputable def Try.pinned : Pinned := { name := "ytkbcbahpcnemmaa", sum := "e5e36e8221199e51e8a67faab8b370ecd84a77199309e987b6f33fa36cb6e19d", checked := Try.checked }
namespace Rows
def none {H : Type} : Left H := { results := [], args := [] }

/-- 'hasselaw.MoebiusTimes': WHATEVER THE INPUT: true; the input reads as it did. -/
def moebiusTimesSpec : ChangeSpec := { name := "moebiusTimes", fn := fun _ => fun
  | [d1, d2, d3, d4] => { results := [.lit (.bool true)], args := [d1, d2, d3, d4] }
  | _ => none }
def moebiusTimesRow : OpenClaim := { program := "ytkbcbahpcnemmaa", sum := "e5e36e8221199e51e8a67faab8b370ecd84a77199309e987b6f33fa36cb6e19d", func := "hasse/hasselaw.MoebiusTimes", spec := "moebiusTimes", unfollowed := true, recurses := true, plainKeys := false, apart := false }
def MoebiusTimesSaid : Prop := moebiusTimesRow.holds Try.pinned (OpenSpec.ofChange moebiusTimesSpec)

/-- ITS FALSE NEIGHBOUR: 'it returns false'. Refute it at one input. -/
def moebiusTimesWrong : ChangeSpec := { name := "moebiusTimes", fn := fun _ => fun
  | [d1, d2, d3, d4] => { results := [.lit (.bool false)], args := [d1, d2, d3, d4] }
  | _ => none }
def MoebiusTimesWrongFalsely : Prop := moebiusTimesRow.holds Try.pinned (OpenSpec.ofChange moebiusTimesWrong)

/-- 'hasselaw.MoebiusOf': WHATEVER THE INPUT: true; the input reads as it did. -/
def moebiusOfSpec : ChangeSpec := { name := "moebiusOf", fn := fun _ => fun
  | [d1, d2, d3] => { results := [.lit (.bool true)], args := [d1, d2, d3] }
  | _ => none }
def moebiusOfRow : OpenClaim := { program := "ytkbcbahpcnemmaa", sum := "e5e36e8221199e51e8a67faab8b370ecd84a77199309e987b6f33fa36cb6e19d", func := "hasse/hasselaw.MoebiusOf", spec := "moebiusOf", unfollowed := true, recurses := true, plainKeys := false, apart := false }
def MoebiusOfSaid : Prop := moebiusOfRow.holds Try.pinned (OpenSpec.ofChange moebiusOfSpec)

/-- ITS FALSE NEIGHBOUR: 'it returns false'. Refute it at one input. -/
def moebiusOfWrong : ChangeSpec := { name := "moebiusOf", fn := fun _ => fun
  | [d1, d2, d3] => { results := [.lit (.bool false)], args := [d1, d2, d3] }
  | _ => none }
def MoebiusOfWrongFalsely : Prop := moebiusOfRow.holds Try.pinned (OpenSpec.ofChange moebiusOfWrong)

/-- 'hasselaw.MoebiusWeisner': WHATEVER THE INPUT: true; the input reads as it did. -/
def moebiusWeisnerSpec : ChangeSpec := { name := "moebiusWeisner", fn := fun _ => fun
  | [d1, d2] => { results := [.lit (.bool true)], args := [d1, d2] }
  | _ => none }
def moebiusWeisnerRow : OpenClaim := { program := "ytkbcbahpcnemmaa", sum := "e5e36e8221199e51e8a67faab8b370ecd84a77199309e987b6f33fa36cb6e19d", func := "hasse/hasselaw.MoebiusWeisner", spec := "moebiusWeisner", unfollowed := true, recurses := true, plainKeys := false, apart := false }
def MoebiusWeisnerSaid : Prop := moebiusWeisnerRow.holds Try.pinned (OpenSpec.ofChange moebiusWeisnerSpec)

/-- ITS FALSE NEIGHBOUR: 'it returns false'. Refute it at one input. -/
def moebiusWeisnerWrong : ChangeSpec := { name := "moebiusWeisner", fn := fun _ => fun
  | [d1, d2] => { results := [.lit (.bool false)], args := [d1, d2] }
  | _ => none }
def MoebiusWeisnerWrongFalsely : Prop := moebiusWeisnerRow.holds Try.pinned (OpenSpec.ofChange moebiusWeisnerWrong)

/-- 'hasselaw.ScalesCosts': WHATEVER THE INPUT: true; the input reads as it did. -/
def scalesCostsSpec : ChangeSpec := { name := "scalesCosts", fn := fun _ => fun
  | [d] => { results := [.lit (.bool true)], args := [d] }
  | _ => none }
def scalesCostsRow : OpenClaim := { program := "ytkbcbahpcnemmaa", sum := "e5e36e8221199e51e8a67faab8b370ecd84a77199309e987b6f33fa36cb6e19d", func := "hasse/hasselaw.ScalesCosts", spec := "scalesCosts", unfollowed := true, recurses := true, plainKeys := false, apart := false }
def ScalesCostsSaid : Prop := scalesCostsRow.holds Try.pinned (OpenSpec.ofChange scalesCostsSpec)

/-- ITS FALSE NEIGHBOUR: 'it returns false'. Refute it at one input. -/
def scalesCostsWrong : ChangeSpec := { name := "scalesCosts", fn := fun _ => fun
  | [d] => { results := [.lit (.bool false)], args := [d] }
  | _ => none }
def ScalesCostsWrongFalsely : Prop := scalesCostsRow.holds Try.pinned (OpenSpec.ofChange scalesCostsWrong)

/-- 'hasselaw.ScalesBest': WHATEVER THE INPUT: true; the input reads as it did. -/
def scalesBestSpec : ChangeSpec := { name := "scalesBest", fn := fun _ => fun
  | [d] => { results := [.lit (.bool true)], args := [d] }
  | _ => none }
def scalesBestRow : OpenClaim := { program := "ytkbcbahpcnemmaa", sum := "e5e36e8221199e51e8a67faab8b370ecd84a77199309e987b6f33fa36cb6e19d", func := "hasse/hasselaw.ScalesBest", spec := "scalesBest", unfollowed := true, recurses := true, plainKeys := false, apart := false }
def ScalesBestSaid : Prop := scalesBestRow.holds Try.pinned (OpenSpec.ofChange scalesBestSpec)

/-- ITS FALSE NEIGHBOUR: 'it returns false'. Refute it at one input. -/
def scalesBestWrong : ChangeSpec := { name := "scalesBest", fn := fun _ => fun
  | [d] => { results := [.lit (.bool false)], args := [d] }
  | _ => none }
def ScalesBestWrongFalsely : Prop := scalesBestRow.holds Try.pinned (OpenSpec.ofChange scalesBestWrong)

/-- 'hasselaw.ScalesDemuth': WHATEVER THE INPUT: true; the input reads as it did. -/
def scalesDemuthSpec : ChangeSpec := { name := "scalesDemuth", fn := fun _ => fun
  | [d] => { results := [.lit (.bool true)], args := [d] }
  | _ => none }
def scalesDemuthRow : OpenClaim := { program := "ytkbcbahpcnemmaa", sum := "e5e36e8221199e51e8a67faab8b370ecd84a77199309e987b6f33fa36cb6e19d", func := "hasse/hasselaw.ScalesDemuth", spec := "scalesDemuth", recurses := true, plainKeys := false, apart := false }
def ScalesDemuthSaid : Prop := scalesDemuthRow.holds Try.pinned (OpenSpec.ofChange scalesDemuthSpec)

/-- ITS FALSE NEIGHBOUR: 'it returns false'. Refute it at one input. -/
def scalesDemuthWrong : ChangeSpec := { name := "scalesDemuth", fn := fun _ => fun
  | [d] => { results := [.lit (.bool false)], args := [d] }
  | _ => none }
def ScalesDemuthWrongFalsely : Prop := scalesDemuthRow.holds Try.pinned (OpenSpec.ofChange scalesDemuthWrong)

/-- 'hasselaw.ScalesMore': WHATEVER THE INPUT: true; the input reads as it did. -/
def scalesMoreSpec : ChangeSpec := { name := "scalesMore", fn := fun _ => fun
  | [d1, d2, d3] => { results := [.lit (.bool true)], args := [d1, d2, d3] }
  | _ => none }
def scalesMoreRow : OpenClaim := { program := "ytkbcbahpcnemmaa", sum := "e5e36e8221199e51e8a67faab8b370ecd84a77199309e987b6f33fa36cb6e19d", func := "hasse/hasselaw.ScalesMore", spec := "scalesMore", recurses := true, plainKeys := false, apart := false }
def ScalesMoreSaid : Prop := scalesMoreRow.holds Try.pinned (OpenSpec.ofChange scalesMoreSpec)

/-- ITS FALSE NEIGHBOUR: 'it returns false'. Refute it at one input. -/
def scalesMoreWrong : ChangeSpec := { name := "scalesMore", fn := fun _ => fun
  | [d1, d2, d3] => { results := [.lit (.bool false)], args := [d1, d2, d3] }
  | _ => none }
def ScalesMoreWrongFalsely : Prop := scalesMoreRow.holds Try.pinned (OpenSpec.ofChange scalesMoreWrong)

/-- 'hasselaw.ScalesPlays': WHATEVER THE INPUT: true; the input reads as it did. -/
def scalesPlaysSpec : ChangeSpec := { name := "scalesPlays", fn := fun _ => fun
  | [d1, d2] => { results := [.lit (.bool true)], args := [d1, d2] }
  | _ => none }
def scalesPlaysRow : OpenClaim := { program := "ytkbcbahpcnemmaa", sum := "e5e36e8221199e51e8a67faab8b370ecd84a77199309e987b6f33fa36cb6e19d", func := "hasse/hasselaw.ScalesPlays", spec := "scalesPlays", unfollowed := true, recurses := true, plainKeys := false, apart := false }
def ScalesPlaysSaid : Prop := scalesPlaysRow.holds Try.pinned (OpenSpec.ofChange scalesPlaysSpec)

/-- ITS FALSE NEIGHBOUR: 'it returns false'. Refute it at one input. -/
def scalesPlaysWrong : ChangeSpec := { name := "scalesPlays", fn := fun _ => fun
  | [d1, d2] => { results := [.lit (.bool false)], args := [d1, d2] }
  | _ => none }
def ScalesPlaysWrongFalsely : Prop := scalesPlaysRow.holds Try.pinned (OpenSpec.ofChange scalesPlaysWrong)

/-- 'hasselaw.ScalesBound': WHATEVER THE INPUT: true; the input reads as it did. -/
def scalesBoundSpec : ChangeSpec := { name := "scalesBound", fn := fun _ => fun
  | [d1, d2] => { results := [.lit (.bool true)], args := [d1, d2] }
  | _ => none }
def scalesBoundRow : OpenClaim := { program := "ytkbcbahpcnemmaa", sum := "e5e36e8221199e51e8a67faab8b370ecd84a77199309e987b6f33fa36cb6e19d", func := "hasse/hasselaw.ScalesBound", spec := "scalesBound", recurses := true, plainKeys := false, apart := false }
def ScalesBoundSaid : Prop := scalesBoundRow.holds Try.pinned (OpenSpec.ofChange scalesBoundSpec)

/-- ITS FALSE NEIGHBOUR: 'it returns false'. Refute it at one input. -/
def scalesBoundWrong : ChangeSpec := { name := "scalesBound", fn := fun _ => fun
  | [d1, d2] => { results := [.lit (.bool false)], args := [d1, d2] }
  | _ => none }
def ScalesBoundWrongFalsely : Prop := scalesBoundRow.holds Try.pinned (OpenSpec.ofChange scalesBoundWrong)

/-- 'hasselaw.ExtendShepp': WHATEVER THE INPUT: true; the input reads as it did. -/
def extendSheppSpec : ChangeSpec := { name := "extendShepp", fn := fun _ => fun
  | [d1, d2, d3, d4] => { results := [.lit (.bool true)], args := [d1, d2, d3, d4] }
  | _ => none }
def extendSheppRow : OpenClaim := { program := "ytkbcbahpcnemmaa", sum := "e5e36e8221199e51e8a67faab8b370ecd84a77199309e987b6f33fa36cb6e19d", func := "hasse/hasselaw.ExtendShepp", spec := "extendShepp", plainKeys := false, apart := false }
def ExtendSheppSaid : Prop := extendSheppRow.holds Try.pinned (OpenSpec.ofChange extendSheppSpec)

/-- ITS FALSE NEIGHBOUR: 'it returns false'. Refute it at one input. -/
def extendSheppWrong : ChangeSpec := { name := "extendShepp", fn := fun _ => fun
  | [d1, d2, d3, d4] => { results := [.lit (.bool false)], args := [d1, d2, d3, d4] }
  | _ => none }
def ExtendSheppWrongFalsely : Prop := extendSheppRow.holds Try.pinned (OpenSpec.ofChange extendSheppWrong)

/- THE SECOND FORM. 'bulk': how many values and letters a reading holds, each counted each time it is reached (what is shared counts as often as it is met; a slice's spare places count too). A statement '..UptoSaid' is the law's where the arguments, and the package variables that the reading takes, are together of bulk at most 1048576: NARROWER than '..Said'. Prove '..Said' where nothing that the law and all that it calls make is longer than what came in: it says more and counts as full. Else prove '..UptoSaid'. A law counts once. -/
mutual
def uptoBulk {H : Type} : DataW H → Nat
  | .lit (.string bytes) => bytes.length + 1
  | .lit _ => 1
  | .nil => 1
  | .ptr d => uptoBulk d + 1
  | .slice elems spare => uptoBulkAll elems + uptoBulkAll spare + 1
  | .agg parts => uptoBulkAll parts + 1
  | .iface _ d => uptoBulk d + 1
  | .map entries => uptoBulkEntries entries + 1
  | .held _ => 1
def uptoBulkAll {H : Type} : List (DataW H) → Nat
  | [] => 0
  | d :: r => uptoBulk d + uptoBulkAll r
def uptoBulkEntries {H : Type} : List (Lit × DataW H) → Nat
  | [] => 0
  | x :: r => uptoBulkEntry x + uptoBulkEntries r
def uptoBulkEntry {H : Type} : Lit × DataW H → Nat
  | (.string bytes, d) => bytes.length + uptoBulk d + 1
  | (_, d) => uptoBulk d + 1
 end
def uptoSmall : (H : Type) → List (DataW H) → Bool := fun _ ds => decide (uptoBulkAll ds ≤ 1048576)
def OpenSpec.upto (s : _root_.Go.ChangeSpec) : _root_.Go.OpenSpec := { _root_.Go.OpenSpec.ofChange s with cond := some uptoSmall }

/-- 'hasselaw.MoebiusTimes', WHERE WHAT IT READS IS OF BULK AT MOST 1048576: true; the input reads as it did. -/
def moebiusTimesUptoRow : OpenClaim := { program := "ytkbcbahpcnemmaa", sum := "e5e36e8221199e51e8a67faab8b370ecd84a77199309e987b6f33fa36cb6e19d", func := "hasse/hasselaw.MoebiusTimes", spec := "moebiusTimes", unfollowed := true, recurses := true, plainKeys := false, apart := false, narrowed := true }
def MoebiusTimesUptoSaid : Prop := moebiusTimesUptoRow.holds Try.pinned (OpenSpec.upto moebiusTimesSpec)

/-- 'hasselaw.MoebiusOf', WHERE WHAT IT READS IS OF BULK AT MOST 1048576: true; the input reads as it did. -/
def moebiusOfUptoRow : OpenClaim := { program := "ytkbcbahpcnemmaa", sum := "e5e36e8221199e51e8a67faab8b370ecd84a77199309e987b6f33fa36cb6e19d", func := "hasse/hasselaw.MoebiusOf", spec := "moebiusOf", unfollowed := true, recurses := true, plainKeys := false, apart := false, narrowed := true }
def MoebiusOfUptoSaid : Prop := moebiusOfUptoRow.holds Try.pinned (OpenSpec.upto moebiusOfSpec)

/-- 'hasselaw.MoebiusWeisner', WHERE WHAT IT READS IS OF BULK AT MOST 1048576: true; the input reads as it did. -/
def moebiusWeisnerUptoRow : OpenClaim := { program := "ytkbcbahpcnemmaa", sum := "e5e36e8221199e51e8a67faab8b370ecd84a77199309e987b6f33fa36cb6e19d", func := "hasse/hasselaw.MoebiusWeisner", spec := "moebiusWeisner", unfollowed := true, recurses := true, plainKeys := false, apart := false, narrowed := true }
def MoebiusWeisnerUptoSaid : Prop := moebiusWeisnerUptoRow.holds Try.pinned (OpenSpec.upto moebiusWeisnerSpec)

/-- 'hasselaw.ScalesCosts', WHERE WHAT IT READS IS OF BULK AT MOST 1048576: true; the input reads as it did. -/
def scalesCostsUptoRow : OpenClaim := { program := "ytkbcbahpcnemmaa", sum := "e5e36e8221199e51e8a67faab8b370ecd84a77199309e987b6f33fa36cb6e19d", func := "hasse/hasselaw.ScalesCosts", spec := "scalesCosts", unfollowed := true, recurses := true, plainKeys := false, apart := false, narrowed := true }
def ScalesCostsUptoSaid : Prop := scalesCostsUptoRow.holds Try.pinned (OpenSpec.upto scalesCostsSpec)

/-- 'hasselaw.ScalesBest', WHERE WHAT IT READS IS OF BULK AT MOST 1048576: true; the input reads as it did. -/
def scalesBestUptoRow : OpenClaim := { program := "ytkbcbahpcnemmaa", sum := "e5e36e8221199e51e8a67faab8b370ecd84a77199309e987b6f33fa36cb6e19d", func := "hasse/hasselaw.ScalesBest", spec := "scalesBest", unfollowed := true, recurses := true, plainKeys := false, apart := false, narrowed := true }
def ScalesBestUptoSaid : Prop := scalesBestUptoRow.holds Try.pinned (OpenSpec.upto scalesBestSpec)

/-- 'hasselaw.ScalesDemuth', WHERE WHAT IT READS IS OF BULK AT MOST 1048576: true; the input reads as it did. -/
def scalesDemuthUptoRow : OpenClaim := { program := "ytkbcbahpcnemmaa", sum := "e5e36e8221199e51e8a67faab8b370ecd84a77199309e987b6f33fa36cb6e19d", func := "hasse/hasselaw.ScalesDemuth", spec := "scalesDemuth", recurses := true, plainKeys := false, apart := false, narrowed := true }
def ScalesDemuthUptoSaid : Prop := scalesDemuthUptoRow.holds Try.pinned (OpenSpec.upto scalesDemuthSpec)

/-- 'hasselaw.ScalesMore', WHERE WHAT IT READS IS OF BULK AT MOST 1048576: true; the input reads as it did. -/
def scalesMoreUptoRow : OpenClaim := { program := "ytkbcbahpcnemmaa", sum := "e5e36e8221199e51e8a67faab8b370ecd84a77199309e987b6f33fa36cb6e19d", func := "hasse/hasselaw.ScalesMore", spec := "scalesMore", recurses := true, plainKeys := false, apart := false, narrowed := true }
def ScalesMoreUptoSaid : Prop := scalesMoreUptoRow.holds Try.pinned (OpenSpec.upto scalesMoreSpec)

/-- 'hasselaw.ScalesPlays', WHERE WHAT IT READS IS OF BULK AT MOST 1048576: true; the input reads as it did. -/
def scalesPlaysUptoRow : OpenClaim := { program := "ytkbcbahpcnemmaa", sum := "e5e36e8221199e51e8a67faab8b370ecd84a77199309e987b6f33fa36cb6e19d", func := "hasse/hasselaw.ScalesPlays", spec := "scalesPlays", unfollowed := true, recurses := true, plainKeys := false, apart := false, narrowed := true }
def ScalesPlaysUptoSaid : Prop := scalesPlaysUptoRow.holds Try.pinned (OpenSpec.upto scalesPlaysSpec)

/-- 'hasselaw.ScalesBound', WHERE WHAT IT READS IS OF BULK AT MOST 1048576: true; the input reads as it did. -/
def scalesBoundUptoRow : OpenClaim := { program := "ytkbcbahpcnemmaa", sum := "e5e36e8221199e51e8a67faab8b370ecd84a77199309e987b6f33fa36cb6e19d", func := "hasse/hasselaw.ScalesBound", spec := "scalesBound", recurses := true, plainKeys := false, apart := false, narrowed := true }
def ScalesBoundUptoSaid : Prop := scalesBoundUptoRow.holds Try.pinned (OpenSpec.upto scalesBoundSpec)

/-- 'hasselaw.ExtendShepp', WHERE WHAT IT READS IS OF BULK AT MOST 1048576: true; the input reads as it did. -/
def extendSheppUptoRow : OpenClaim := { program := "ytkbcbahpcnemmaa", sum := "e5e36e8221199e51e8a67faab8b370ecd84a77199309e987b6f33fa36cb6e19d", func := "hasse/hasselaw.ExtendShepp", spec := "extendShepp", plainKeys := false, apart := false, narrowed := true }
def ExtendSheppUptoSaid : Prop := extendSheppUptoRow.holds Try.pinned (OpenSpec.upto extendSheppSpec)

end Rows
end Go.Proofs.Ytkbcbahpcnemmaa
