/-
  No cell of these rows narrows 'for every input' (looked for: loops, veiled, ifaces, maps, wideKeys, modest, calm, conditions, laid).
  DERIVED. THE GIVEN ROWS OF THIS SEAT. 12 by the template 'for every input the law returns true; each argument reads behind the call as it read before'; 0 by the template 'total and deterministic' (their statements: YtfjpgficpdbelaaTotals.lean).
  GIVEN WITH THE SEED: the statements are not yours to turn. If you find one false, say at which input.
  Laid BY PROGRAM, IN A SANDBOX (cutbox-rows.mjs): the forced cells as the released guide's own fill.sh prints them over the translation e30e7d7b0ecd71eb… (all of the seat's roots in one cut). By AI agents, Wed Nov 11 2026. No macro, syntax, notation, axiom, sorry.
-/
import Derived.Test.YtfjpgficpdbelaaChecked
import GoSem.Claim
import GoSem.ClaimJoined
import GoSem.ClaimMapViews
import Derived.JoinedTies
import Derived.KernelRfl
namespace Go.Proofs.Ytfjpgficpdbelaa
/- THE CELL 'sum', in the pinned program and in every row, IS THE sha256 OF THE DUMP (.gsa) THAT YtfjpgficpdbelaaProg.lean LOADS. Nothing in Lean hashes anything: it is a label: what it is worth is what the hold of that sum in a sandbox is worth. -/
noncomputable def Try.pinned : Pinned := { name := "ytfjpgficpdbelaa", sum := "e30e7d7b0ecd71ebda58cfaf9ea520890505c7fecea1747d565a62eef5c31c1e", checked := Try.checked }
namespace Rows
def none {H : Type} : Left H := { results := [], args := [] }

/-- 'hasselaw.ClockLost': WHATEVER THE INPUT: true; the input reads as it did. -/
def clockLostSpec : ChangeSpec := { name := "clockLost", fn := fun _ => fun
  | [d1, d2] => { results := [.lit (.bool true)], args := [d1, d2] }
  | _ => none }
def clockLostRow : OpenClaim := { program := "ytfjpgficpdbelaa", sum := "e30e7d7b0ecd71ebda58cfaf9ea520890505c7fecea1747d565a62eef5c31c1e", func := "hasse/hasselaw.ClockLost", spec := "clockLost", unfollowed := true, recurses := true, plainKeys := false, apart := false }
def ClockLostSaid : Prop := clockLostRow.holds Try.pinned (OpenSpec.ofChange clockLostSpec)

/-- ITS FALSE NEIGHBOUR: 'it returns false'. Refute it at one input. -/
def clockLostWrong : ChangeSpec := { name := "clockLost", fn := fun _ => fun
  | [d1, d2] => { results := [.lit (.bool false)], args := [d1, d2] }
  | _ => none }
def ClockLostWrongFalsely : Prop := clockLostRow.holds Try.pinned (OpenSpec.ofChange clockLostWrong)

/-- 'hasselaw.ImplyBases': WHATEVER THE INPUT: true; the input reads as it did. -/
def implyBasesSpec : ChangeSpec := { name := "implyBases", fn := fun _ => fun
  | [d1, d2] => { results := [.lit (.bool true)], args := [d1, d2] }
  | _ => none }
def implyBasesRow : OpenClaim := { program := "ytfjpgficpdbelaa", sum := "e30e7d7b0ecd71ebda58cfaf9ea520890505c7fecea1747d565a62eef5c31c1e", func := "hasse/hasselaw.ImplyBases", spec := "implyBases", unfollowed := true, recurses := true, plainKeys := false, apart := false }
def ImplyBasesSaid : Prop := implyBasesRow.holds Try.pinned (OpenSpec.ofChange implyBasesSpec)

/-- ITS FALSE NEIGHBOUR: 'it returns false'. Refute it at one input. -/
def implyBasesWrong : ChangeSpec := { name := "implyBases", fn := fun _ => fun
  | [d1, d2] => { results := [.lit (.bool false)], args := [d1, d2] }
  | _ => none }
def ImplyBasesWrongFalsely : Prop := implyBasesRow.holds Try.pinned (OpenSpec.ofChange implyBasesWrong)

/-- 'hasselaw.ImplyOf': WHATEVER THE INPUT: true; the input reads as it did. -/
def implyOfSpec : ChangeSpec := { name := "implyOf", fn := fun _ => fun
  | [d] => { results := [.lit (.bool true)], args := [d] }
  | _ => none }
def implyOfRow : OpenClaim := { program := "ytfjpgficpdbelaa", sum := "e30e7d7b0ecd71ebda58cfaf9ea520890505c7fecea1747d565a62eef5c31c1e", func := "hasse/hasselaw.ImplyOf", spec := "implyOf", unfollowed := true, recurses := true, plainKeys := false, apart := false }
def ImplyOfSaid : Prop := implyOfRow.holds Try.pinned (OpenSpec.ofChange implyOfSpec)

/-- ITS FALSE NEIGHBOUR: 'it returns false'. Refute it at one input. -/
def implyOfWrong : ChangeSpec := { name := "implyOf", fn := fun _ => fun
  | [d] => { results := [.lit (.bool false)], args := [d] }
  | _ => none }
def ImplyOfWrongFalsely : Prop := implyOfRow.holds Try.pinned (OpenSpec.ofChange implyOfWrong)

/-- 'hasselaw.ImplyGuigues': WHATEVER THE INPUT: true; the input reads as it did. -/
def implyGuiguesSpec : ChangeSpec := { name := "implyGuigues", fn := fun _ => fun
  | [d1, d2] => { results := [.lit (.bool true)], args := [d1, d2] }
  | _ => none }
def implyGuiguesRow : OpenClaim := { program := "ytfjpgficpdbelaa", sum := "e30e7d7b0ecd71ebda58cfaf9ea520890505c7fecea1747d565a62eef5c31c1e", func := "hasse/hasselaw.ImplyGuigues", spec := "implyGuigues", unfollowed := true, recurses := true, plainKeys := false, apart := false }
def ImplyGuiguesSaid : Prop := implyGuiguesRow.holds Try.pinned (OpenSpec.ofChange implyGuiguesSpec)

/-- ITS FALSE NEIGHBOUR: 'it returns false'. Refute it at one input. -/
def implyGuiguesWrong : ChangeSpec := { name := "implyGuigues", fn := fun _ => fun
  | [d1, d2] => { results := [.lit (.bool false)], args := [d1, d2] }
  | _ => none }
def ImplyGuiguesWrongFalsely : Prop := implyGuiguesRow.holds Try.pinned (OpenSpec.ofChange implyGuiguesWrong)

/-- 'hasselaw.ImplyObeyed': WHATEVER THE INPUT: true; the input reads as it did. -/
def implyObeyedSpec : ChangeSpec := { name := "implyObeyed", fn := fun _ => fun
  | [d1, d2] => { results := [.lit (.bool true)], args := [d1, d2] }
  | _ => none }
def implyObeyedRow : OpenClaim := { program := "ytfjpgficpdbelaa", sum := "e30e7d7b0ecd71ebda58cfaf9ea520890505c7fecea1747d565a62eef5c31c1e", func := "hasse/hasselaw.ImplyObeyed", spec := "implyObeyed", unfollowed := true, recurses := true, plainKeys := false, apart := false }
def ImplyObeyedSaid : Prop := implyObeyedRow.holds Try.pinned (OpenSpec.ofChange implyObeyedSpec)

/-- ITS FALSE NEIGHBOUR: 'it returns false'. Refute it at one input. -/
def implyObeyedWrong : ChangeSpec := { name := "implyObeyed", fn := fun _ => fun
  | [d1, d2] => { results := [.lit (.bool false)], args := [d1, d2] }
  | _ => none }
def ImplyObeyedWrongFalsely : Prop := implyObeyedRow.holds Try.pinned (OpenSpec.ofChange implyObeyedWrong)

/-- 'hasselaw.RealizeOf': WHATEVER THE INPUT: true; the input reads as it did. -/
def realizeOfSpec : ChangeSpec := { name := "realizeOf", fn := fun _ => fun
  | [d1, d2] => { results := [.lit (.bool true)], args := [d1, d2] }
  | _ => none }
def realizeOfRow : OpenClaim := { program := "ytfjpgficpdbelaa", sum := "e30e7d7b0ecd71ebda58cfaf9ea520890505c7fecea1747d565a62eef5c31c1e", func := "hasse/hasselaw.RealizeOf", spec := "realizeOf", unfollowed := true, recurses := true, plainKeys := false, apart := false }
def RealizeOfSaid : Prop := realizeOfRow.holds Try.pinned (OpenSpec.ofChange realizeOfSpec)

/-- ITS FALSE NEIGHBOUR: 'it returns false'. Refute it at one input. -/
def realizeOfWrong : ChangeSpec := { name := "realizeOf", fn := fun _ => fun
  | [d1, d2] => { results := [.lit (.bool false)], args := [d1, d2] }
  | _ => none }
def RealizeOfWrongFalsely : Prop := realizeOfRow.holds Try.pinned (OpenSpec.ofChange realizeOfWrong)

/-- 'hasselaw.ScalesCosts': WHATEVER THE INPUT: true; the input reads as it did. -/
def scalesCostsSpec : ChangeSpec := { name := "scalesCosts", fn := fun _ => fun
  | [d] => { results := [.lit (.bool true)], args := [d] }
  | _ => none }
def scalesCostsRow : OpenClaim := { program := "ytfjpgficpdbelaa", sum := "e30e7d7b0ecd71ebda58cfaf9ea520890505c7fecea1747d565a62eef5c31c1e", func := "hasse/hasselaw.ScalesCosts", spec := "scalesCosts", unfollowed := true, recurses := true, plainKeys := false, apart := false }
def ScalesCostsSaid : Prop := scalesCostsRow.holds Try.pinned (OpenSpec.ofChange scalesCostsSpec)

/-- ITS FALSE NEIGHBOUR: 'it returns false'. Refute it at one input. -/
def scalesCostsWrong : ChangeSpec := { name := "scalesCosts", fn := fun _ => fun
  | [d] => { results := [.lit (.bool false)], args := [d] }
  | _ => none }
def ScalesCostsWrongFalsely : Prop := scalesCostsRow.holds Try.pinned (OpenSpec.ofChange scalesCostsWrong)

/-- 'hasselaw.ScalesBest': WHATEVER THE INPUT: true; the input reads as it did. -/
def scalesBestSpec : ChangeSpec := { name := "scalesBest", fn := fun _ => fun
  | [d] => { results := [.lit (.bool true)], args := [d] }
  | _ => none }
def scalesBestRow : OpenClaim := { program := "ytfjpgficpdbelaa", sum := "e30e7d7b0ecd71ebda58cfaf9ea520890505c7fecea1747d565a62eef5c31c1e", func := "hasse/hasselaw.ScalesBest", spec := "scalesBest", unfollowed := true, recurses := true, plainKeys := false, apart := false }
def ScalesBestSaid : Prop := scalesBestRow.holds Try.pinned (OpenSpec.ofChange scalesBestSpec)

/-- ITS FALSE NEIGHBOUR: 'it returns false'. Refute it at one input. -/
def scalesBestWrong : ChangeSpec := { name := "scalesBest", fn := fun _ => fun
  | [d] => { results := [.lit (.bool false)], args := [d] }
  | _ => none }
def ScalesBestWrongFalsely : Prop := scalesBestRow.holds Try.pinned (OpenSpec.ofChange scalesBestWrong)

/-- 'hasselaw.ScalesDemuth': WHATEVER THE INPUT: true; the input reads as it did. -/
def scalesDemuthSpec : ChangeSpec := { name := "scalesDemuth", fn := fun _ => fun
  | [d] => { results := [.lit (.bool true)], args := [d] }
  | _ => none }
def scalesDemuthRow : OpenClaim := { program := "ytfjpgficpdbelaa", sum := "e30e7d7b0ecd71ebda58cfaf9ea520890505c7fecea1747d565a62eef5c31c1e", func := "hasse/hasselaw.ScalesDemuth", spec := "scalesDemuth", recurses := true, plainKeys := false, apart := false }
def ScalesDemuthSaid : Prop := scalesDemuthRow.holds Try.pinned (OpenSpec.ofChange scalesDemuthSpec)

/-- ITS FALSE NEIGHBOUR: 'it returns false'. Refute it at one input. -/
def scalesDemuthWrong : ChangeSpec := { name := "scalesDemuth", fn := fun _ => fun
  | [d] => { results := [.lit (.bool false)], args := [d] }
  | _ => none }
def ScalesDemuthWrongFalsely : Prop := scalesDemuthRow.holds Try.pinned (OpenSpec.ofChange scalesDemuthWrong)

/-- 'hasselaw.ScalesMore': WHATEVER THE INPUT: true; the input reads as it did. -/
def scalesMoreSpec : ChangeSpec := { name := "scalesMore", fn := fun _ => fun
  | [d1, d2, d3] => { results := [.lit (.bool true)], args := [d1, d2, d3] }
  | _ => none }
def scalesMoreRow : OpenClaim := { program := "ytfjpgficpdbelaa", sum := "e30e7d7b0ecd71ebda58cfaf9ea520890505c7fecea1747d565a62eef5c31c1e", func := "hasse/hasselaw.ScalesMore", spec := "scalesMore", recurses := true, plainKeys := false, apart := false }
def ScalesMoreSaid : Prop := scalesMoreRow.holds Try.pinned (OpenSpec.ofChange scalesMoreSpec)

/-- ITS FALSE NEIGHBOUR: 'it returns false'. Refute it at one input. -/
def scalesMoreWrong : ChangeSpec := { name := "scalesMore", fn := fun _ => fun
  | [d1, d2, d3] => { results := [.lit (.bool false)], args := [d1, d2, d3] }
  | _ => none }
def ScalesMoreWrongFalsely : Prop := scalesMoreRow.holds Try.pinned (OpenSpec.ofChange scalesMoreWrong)

/-- 'hasselaw.ScalesPlays': WHATEVER THE INPUT: true; the input reads as it did. -/
def scalesPlaysSpec : ChangeSpec := { name := "scalesPlays", fn := fun _ => fun
  | [d1, d2] => { results := [.lit (.bool true)], args := [d1, d2] }
  | _ => none }
def scalesPlaysRow : OpenClaim := { program := "ytfjpgficpdbelaa", sum := "e30e7d7b0ecd71ebda58cfaf9ea520890505c7fecea1747d565a62eef5c31c1e", func := "hasse/hasselaw.ScalesPlays", spec := "scalesPlays", unfollowed := true, recurses := true, plainKeys := false, apart := false }
def ScalesPlaysSaid : Prop := scalesPlaysRow.holds Try.pinned (OpenSpec.ofChange scalesPlaysSpec)

/-- ITS FALSE NEIGHBOUR: 'it returns false'. Refute it at one input. -/
def scalesPlaysWrong : ChangeSpec := { name := "scalesPlays", fn := fun _ => fun
  | [d1, d2] => { results := [.lit (.bool false)], args := [d1, d2] }
  | _ => none }
def ScalesPlaysWrongFalsely : Prop := scalesPlaysRow.holds Try.pinned (OpenSpec.ofChange scalesPlaysWrong)

/-- 'hasselaw.ScalesBound': WHATEVER THE INPUT: true; the input reads as it did. -/
def scalesBoundSpec : ChangeSpec := { name := "scalesBound", fn := fun _ => fun
  | [d1, d2] => { results := [.lit (.bool true)], args := [d1, d2] }
  | _ => none }
def scalesBoundRow : OpenClaim := { program := "ytfjpgficpdbelaa", sum := "e30e7d7b0ecd71ebda58cfaf9ea520890505c7fecea1747d565a62eef5c31c1e", func := "hasse/hasselaw.ScalesBound", spec := "scalesBound", recurses := true, plainKeys := false, apart := false }
def ScalesBoundSaid : Prop := scalesBoundRow.holds Try.pinned (OpenSpec.ofChange scalesBoundSpec)

/-- ITS FALSE NEIGHBOUR: 'it returns false'. Refute it at one input. -/
def scalesBoundWrong : ChangeSpec := { name := "scalesBound", fn := fun _ => fun
  | [d1, d2] => { results := [.lit (.bool false)], args := [d1, d2] }
  | _ => none }
def ScalesBoundWrongFalsely : Prop := scalesBoundRow.holds Try.pinned (OpenSpec.ofChange scalesBoundWrong)

/- THE SECOND FORM. 'bulk': how many values and letters a reading holds, each counted each time it is reached (what is shared counts as often as it is met; a slice's spare places count too). A statement '..UptoSaid' is the law's where the arguments, and the package variables that the reading takes, are together of bulk at most 1048576: NARROWER than '..Said'. Prove '..Said' where nothing that the law and all that it calls make is longer than what came in: it says more and counts as full. Else prove '..UptoSaid'. A law counts once. -/
mutual
def uptoBulk {H : Type} : DataW H → Nat
  | .lit (.string bytes) => bytes.length + 1
  | .lit _ => 1
  | .nil => 1
  | .ptr d => uptoBulk d + 1
  | .slice elems spare => uptoBulkAll elems + uptoBulkAll spare + 1
  | .agg parts => uptoBulkAll parts + 1
  | .iface _ d => uptoBulk d + 1
  | .map entries => uptoBulkEntries entries + 1
  | .held _ => 1
def uptoBulkAll {H : Type} : List (DataW H) → Nat
  | [] => 0
  | d :: r => uptoBulk d + uptoBulkAll r
def uptoBulkEntries {H : Type} : List (Lit × DataW H) → Nat
  | [] => 0
  | x :: r => uptoBulkEntry x + uptoBulkEntries r
def uptoBulkEntry {H : Type} : Lit × DataW H → Nat
  | (.string bytes, d) => bytes.length + uptoBulk d + 1
  | (_, d) => uptoBulk d + 1
 end
def uptoSmall : (H : Type) → List (DataW H) → Bool := fun _ ds => decide (uptoBulkAll ds ≤ 1048576)
def OpenSpec.upto (s : _root_.Go.ChangeSpec) : _root_.Go.OpenSpec := { _root_.Go.OpenSpec.ofChange s with cond := some uptoSmall }

/-- 'hasselaw.ClockLost', WHERE WHAT IT READS IS OF BULK AT MOST 1048576: true; the input reads as it did. -/
def clockLostUptoRow : OpenClaim := { program := "ytfjpgficpdbelaa", sum := "e30e7d7b0ecd71ebda58cfaf9ea520890505c7fecea1747d565a62eef5c31c1e", func := "hasse/hasselaw.ClockLost", spec := "clockLost", unfollowed := true, recurses := true, plainKeys := false, apart := false, narrowed := true }
def ClockLostUptoSaid : Prop := clockLostUptoRow.holds Try.pinned (OpenSpec.upto clockLostSpec)

/-- 'hasselaw.ImplyBases', WHERE WHAT IT READS IS OF BULK AT MOST 1048576: true; the input reads as it did. -/
def implyBasesUptoRow : OpenClaim := { program := "ytfjpgficpdbelaa", sum := "e30e7d7b0ecd71ebda58cfaf9ea520890505c7fecea1747d565a62eef5c31c1e", func := "hasse/hasselaw.ImplyBases", spec := "implyBases", unfollowed := true, recurses := true, plainKeys := false, apart := false, narrowed := true }
def ImplyBasesUptoSaid : Prop := implyBasesUptoRow.holds Try.pinned (OpenSpec.upto implyBasesSpec)

/-- 'hasselaw.ImplyOf', WHERE WHAT IT READS IS OF BULK AT MOST 1048576: true; the input reads as it did. -/
def implyOfUptoRow : OpenClaim := { program := "ytfjpgficpdbelaa", sum := "e30e7d7b0ecd71ebda58cfaf9ea520890505c7fecea1747d565a62eef5c31c1e", func := "hasse/hasselaw.ImplyOf", spec := "implyOf", unfollowed := true, recurses := true, plainKeys := false, apart := false, narrowed := true }
def ImplyOfUptoSaid : Prop := implyOfUptoRow.holds Try.pinned (OpenSpec.upto implyOfSpec)

/-- 'hasselaw.ImplyGuigues', WHERE WHAT IT READS IS OF BULK AT MOST 1048576: true; the input reads as it did. -/
def implyGuiguesUptoRow : OpenClaim := { program := "ytfjpgficpdbelaa", sum := "e30e7d7b0ecd71ebda58cfaf9ea520890505c7fecea1747d565a62eef5c31c1e", func := "hasse/hasselaw.ImplyGuigues", spec := "implyGuigues", unfollowed := true, recurses := true, plainKeys := false, apart := false, narrowed := true }
def ImplyGuiguesUptoSaid : Prop := implyGuiguesUptoRow.holds Try.pinned (OpenSpec.upto implyGuiguesSpec)

/-- 'hasselaw.ImplyObeyed', WHERE WHAT IT READS IS OF BULK AT MOST 1048576: true; the input reads as it did. -/
def implyObeyedUptoRow : OpenClaim := { program := "ytfjpgficpdbelaa", sum := "e30e7d7b0ecd71ebda58cfaf9ea520890505c7fecea1747d565a62eef5c31c1e", func := "hasse/hasselaw.ImplyObeyed", spec := "implyObeyed", unfollowed := true, recurses := true, plainKeys := false, apart := false, narrowed := true }
def ImplyObeyedUptoSaid : Prop := implyObeyedUptoRow.holds Try.pinned (OpenSpec.upto implyObeyedSpec)

/-- 'hasselaw.RealizeOf', WHERE WHAT IT READS IS OF BULK AT MOST 1048576: true; the input reads as it did. -/
def realizeOfUptoRow : OpenClaim := { program := "ytfjpgficpdbelaa", sum := "e30e7d7b0ecd71ebda58cfaf9ea520890505c7fecea1747d565a62eef5c31c1e", func := "hasse/hasselaw.RealizeOf", spec := "realizeOf", unfollowed := true, recurses := true, plainKeys := false, apart := false, narrowed := true }
def RealizeOfUptoSaid : Prop := realizeOfUptoRow.holds Try.pinned (OpenSpec.upto realizeOfSpec)

/-- 'hasselaw.ScalesCosts', WHERE WHAT IT READS IS OF BULK AT MOST 1048576: true; the input reads as it did. -/
def scalesCostsUptoRow : OpenClaim := { program := "ytfjpgficpdbelaa", sum := "e30e7d7b0ecd71ebda58cfaf9ea520890505c7fecea1747d565a62eef5c31c1e", func := "hasse/hasselaw.ScalesCosts", spec := "scalesCosts", unfollowed := true, recurses := true, plainKeys := false, apart := false, narrowed := true }
def ScalesCostsUptoSaid : Prop := scalesCostsUptoRow.holds Try.pinned (OpenSpec.upto scalesCostsSpec)

/-- 'hasselaw.ScalesBest', WHERE WHAT IT READS IS OF BULK AT MOST 1048576: true; the input reads as it did. -/
def scalesBestUptoRow : OpenClaim := { program := "ytfjpgficpdbelaa", sum := "e30e7d7b0ecd71ebda58cfaf9ea520890505c7fecea1747d565a62eef5c31c1e", func := "hasse/hasselaw.ScalesBest", spec := "scalesBest", unfollowed := true, recurses := true, plainKeys := false, apart := false, narrowed := true }
def ScalesBestUptoSaid : Prop := scalesBestUptoRow.holds Try.pinned (OpenSpec.upto scalesBestSpec)

/-- 'hasselaw.ScalesDemuth', WHERE WHAT IT READS IS OF BULK AT MOST 1048576: true; the input reads as it did. -/
def scalesDemuthUptoRow : OpenClaim := { program := "ytfjpgficpdbelaa", sum := "e30e7d7b0ecd71ebda58cfaf9ea520890505c7fecea1747d565a62eef5c31c1e", func := "hasse/hasselaw.ScalesDemuth", spec := "scalesDemuth", recurses := true, plainKeys := false, apart := false, narrowed := true }
def ScalesDemuthUptoSaid : Prop := scalesDemuthUptoRow.holds Try.pinned (OpenSpec.upto scalesDemuthSpec)

/-- 'hasselaw.ScalesMore', WHERE WHAT IT READS IS OF BULK AT MOST 1048576: true; the input reads as it did. -/
def scalesMoreUptoRow : OpenClaim := { program := "ytfjpgficpdbelaa", sum := "e30e7d7b0ecd71ebda58cfaf9ea520890505c7fecea1747d565a62eef5c31c1e", func := "hasse/hasselaw.ScalesMore", spec := "scalesMore", recurses := true, plainKeys := false, apart := false, narrowed := true }
def ScalesMoreUptoSaid : Prop := scalesMoreUptoRow.holds Try.pinned (OpenSpec.upto scalesMoreSpec)

/-- 'hasselaw.ScalesPlays', WHERE WHAT IT READS IS OF BULK AT MOST 1048576: true; the input reads as it did. -/
def scalesPlaysUptoRow : OpenClaim := { program := "ytfjpgficpdbelaa", sum := "e30e7d7b0ecd71ebda58cfaf9ea520890505c7fecea1747d565a62eef5c31c1e", func := "hasse/hasselaw.ScalesPlays", spec := "scalesPlays", unfollowed := true, recurses := true, plainKeys := false, apart := false, narrowed := true }
def ScalesPlaysUptoSaid : Prop := scalesPlaysUptoRow.holds Try.pinned (OpenSpec.upto scalesPlaysSpec)

/-- 'hasselaw.ScalesBound', WHERE WHAT IT READS IS OF BULK AT MOST 1048576: true; the input reads as it did. -/
def scalesBoundUptoRow : OpenClaim := { program := "ytfjpgficpdbelaa", sum := "e30e7d7b0ecd71ebda58cfaf9ea520890505c7fecea1747d565a62eef5c31c1e", func := "hasse/hasselaw.ScalesBound", spec := "scalesBound", recurses := true, plainKeys := false, apart := false, narrowed := true }
def ScalesBoundUptoSaid : Prop := scalesBoundUptoRow.holds Try.pinned (OpenSpec.upto scalesBoundSpec)

end Rows
end Go.Proofs.Ytfjpgficpdbelaa
