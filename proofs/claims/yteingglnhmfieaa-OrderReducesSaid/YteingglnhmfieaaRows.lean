/-
  No cell of these rows narrows 'for every input' (looked for: loops, veiled, ifaces, maps, wideKeys, modest, calm, conditions, laid).
  DERIVED. THE GIVEN ROWS OF THIS SEAT. 12 by the template 'for every input the law returns true; each argument reads behind the call as it read before'; 0 by the template 'total and deterministic' (their statements: YteingglnhmfieaaTotals.lean).
  GIVEN WITH THE SEED: the statements are not yours to turn. If you find one false, say at which input.
  Laid BY PROGRAM, IN A SANDBOX (cutbox-rows.mjs): the forced cells as the released guide's own fill.sh prints them over the translation acdda8228cfc8911… (all of the seat's roots in one cut). By AI agents, Wed Nov 11 2026. No macro, syntax, notation, axiom, sorry.
-/
import Derived.Test.YteingglnhmfieaaChecked
import GoSem.Claim
import GoSem.ClaimJoined
import GoSem.ClaimMapViews
import Derived.JoinedTies
import Derived.KernelRfl
namespace Go.Proofs.Yteingglnhmfieaa
/- THE CELL 'sum', in the pinned program and in every row, IS THE sha256 OF THE DUMP (.gsa) THAT YteingglnhmfieaaProg.lean LOADS. Nothing in Lean hashes anything: it is a label: what it is worth is what the hold of that sum in a sandbox is worth. -/
noncomputable def Try.pinned : Pinned := { name := "yteingglnhmfieaa", sum := "acdda8228cfc89119556267b7e4a3d830e3d06cd432b0e93e627c846812b6def", checked := Try.checked }
namespace Rows
def none {H : Type} : Left H := { results := [], args := [] }

/-- 'hasselaw.EmbedDivides': WHATEVER THE INPUT: true; the input reads as it did. -/
def embedDividesSpec : ChangeSpec := { name := "embedDivides", fn := fun _ => fun
  | [d1, d2] => { results := [.lit (.bool true)], args := [d1, d2] }
  | _ => none }
def embedDividesRow : OpenClaim := { program := "yteingglnhmfieaa", sum := "acdda8228cfc89119556267b7e4a3d830e3d06cd432b0e93e627c846812b6def", func := "hasse/hasselaw.EmbedDivides", spec := "embedDivides", unfollowed := true, recurses := true, apart := false }
def EmbedDividesSaid : Prop := embedDividesRow.holds Try.pinned (OpenSpec.ofChange embedDividesSpec)

/-- ITS FALSE NEIGHBOUR: 'it returns false'. Refute it at one input. -/
def embedDividesWrong : ChangeSpec := { name := "embedDivides", fn := fun _ => fun
  | [d1, d2] => { results := [.lit (.bool false)], args := [d1, d2] }
  | _ => none }
def EmbedDividesWrongFalsely : Prop := embedDividesRow.holds Try.pinned (OpenSpec.ofChange embedDividesWrong)

/-- 'hasselaw.EmbedInto': WHATEVER THE INPUT: true; the input reads as it did. -/
def embedIntoSpec : ChangeSpec := { name := "embedInto", fn := fun _ => fun
  | [d1, d2, d3] => { results := [.lit (.bool true)], args := [d1, d2, d3] }
  | _ => none }
def embedIntoRow : OpenClaim := { program := "yteingglnhmfieaa", sum := "acdda8228cfc89119556267b7e4a3d830e3d06cd432b0e93e627c846812b6def", func := "hasse/hasselaw.EmbedInto", spec := "embedInto", unfollowed := true, recurses := true, apart := false }
def EmbedIntoSaid : Prop := embedIntoRow.holds Try.pinned (OpenSpec.ofChange embedIntoSpec)

/-- ITS FALSE NEIGHBOUR: 'it returns false'. Refute it at one input. -/
def embedIntoWrong : ChangeSpec := { name := "embedInto", fn := fun _ => fun
  | [d1, d2, d3] => { results := [.lit (.bool false)], args := [d1, d2, d3] }
  | _ => none }
def EmbedIntoWrongFalsely : Prop := embedIntoRow.holds Try.pinned (OpenSpec.ofChange embedIntoWrong)

/-- 'hasselaw.EmbedLeast': WHATEVER THE INPUT: true; the input reads as it did. -/
def embedLeastSpec : ChangeSpec := { name := "embedLeast", fn := fun _ => fun
  | [d1, d2] => { results := [.lit (.bool true)], args := [d1, d2] }
  | _ => none }
def embedLeastRow : OpenClaim := { program := "yteingglnhmfieaa", sum := "acdda8228cfc89119556267b7e4a3d830e3d06cd432b0e93e627c846812b6def", func := "hasse/hasselaw.EmbedLeast", spec := "embedLeast", unfollowed := true, recurses := true, apart := false }
def EmbedLeastSaid : Prop := embedLeastRow.holds Try.pinned (OpenSpec.ofChange embedLeastSpec)

/-- ITS FALSE NEIGHBOUR: 'it returns false'. Refute it at one input. -/
def embedLeastWrong : ChangeSpec := { name := "embedLeast", fn := fun _ => fun
  | [d1, d2] => { results := [.lit (.bool false)], args := [d1, d2] }
  | _ => none }
def EmbedLeastWrongFalsely : Prop := embedLeastRow.holds Try.pinned (OpenSpec.ofChange embedLeastWrong)

/-- 'hasselaw.EmbedLighter': WHATEVER THE INPUT: true; the input reads as it did. -/
def embedLighterSpec : ChangeSpec := { name := "embedLighter", fn := fun _ => fun
  | [d1, d2, d3] => { results := [.lit (.bool true)], args := [d1, d2, d3] }
  | _ => none }
def embedLighterRow : OpenClaim := { program := "yteingglnhmfieaa", sum := "acdda8228cfc89119556267b7e4a3d830e3d06cd432b0e93e627c846812b6def", func := "hasse/hasselaw.EmbedLighter", spec := "embedLighter", unfollowed := true, recurses := true, apart := false }
def EmbedLighterSaid : Prop := embedLighterRow.holds Try.pinned (OpenSpec.ofChange embedLighterSpec)

/-- ITS FALSE NEIGHBOUR: 'it returns false'. Refute it at one input. -/
def embedLighterWrong : ChangeSpec := { name := "embedLighter", fn := fun _ => fun
  | [d1, d2, d3] => { results := [.lit (.bool false)], args := [d1, d2, d3] }
  | _ => none }
def EmbedLighterWrongFalsely : Prop := embedLighterRow.holds Try.pinned (OpenSpec.ofChange embedLighterWrong)

/-- 'hasselaw.EmbedHigman': WHATEVER THE INPUT: true; the input reads as it did. -/
def embedHigmanSpec : ChangeSpec := { name := "embedHigman", fn := fun _ => fun
  | [d1, d2] => { results := [.lit (.bool true)], args := [d1, d2] }
  | _ => none }
def embedHigmanRow : OpenClaim := { program := "yteingglnhmfieaa", sum := "acdda8228cfc89119556267b7e4a3d830e3d06cd432b0e93e627c846812b6def", func := "hasse/hasselaw.EmbedHigman", spec := "embedHigman", unfollowed := true, recurses := true, apart := false }
def EmbedHigmanSaid : Prop := embedHigmanRow.holds Try.pinned (OpenSpec.ofChange embedHigmanSpec)

/-- ITS FALSE NEIGHBOUR: 'it returns false'. Refute it at one input. -/
def embedHigmanWrong : ChangeSpec := { name := "embedHigman", fn := fun _ => fun
  | [d1, d2] => { results := [.lit (.bool false)], args := [d1, d2] }
  | _ => none }
def EmbedHigmanWrongFalsely : Prop := embedHigmanRow.holds Try.pinned (OpenSpec.ofChange embedHigmanWrong)

/-- 'hasselaw.EmbedGoes': WHATEVER THE INPUT: true; the input reads as it did. -/
def embedGoesSpec : ChangeSpec := { name := "embedGoes", fn := fun _ => fun
  | [d1, d2, d3, d4, d5, d6] => { results := [.lit (.bool true)], args := [d1, d2, d3, d4, d5, d6] }
  | _ => none }
def embedGoesRow : OpenClaim := { program := "yteingglnhmfieaa", sum := "acdda8228cfc89119556267b7e4a3d830e3d06cd432b0e93e627c846812b6def", func := "hasse/hasselaw.EmbedGoes", spec := "embedGoes", unfollowed := true, recurses := true, apart := false }
def EmbedGoesSaid : Prop := embedGoesRow.holds Try.pinned (OpenSpec.ofChange embedGoesSpec)

/-- ITS FALSE NEIGHBOUR: 'it returns false'. Refute it at one input. -/
def embedGoesWrong : ChangeSpec := { name := "embedGoes", fn := fun _ => fun
  | [d1, d2, d3, d4, d5, d6] => { results := [.lit (.bool false)], args := [d1, d2, d3, d4, d5, d6] }
  | _ => none }
def EmbedGoesWrongFalsely : Prop := embedGoesRow.holds Try.pinned (OpenSpec.ofChange embedGoesWrong)

/-- 'hasselaw.EmbedDershowitz': WHATEVER THE INPUT: true; the input reads as it did. -/
def embedDershowitzSpec : ChangeSpec := { name := "embedDershowitz", fn := fun _ => fun
  | [d1, d2, d3, d4] => { results := [.lit (.bool true)], args := [d1, d2, d3, d4] }
  | _ => none }
def embedDershowitzRow : OpenClaim := { program := "yteingglnhmfieaa", sum := "acdda8228cfc89119556267b7e4a3d830e3d06cd432b0e93e627c846812b6def", func := "hasse/hasselaw.EmbedDershowitz", spec := "embedDershowitz", unfollowed := true, recurses := true, apart := false }
def EmbedDershowitzSaid : Prop := embedDershowitzRow.holds Try.pinned (OpenSpec.ofChange embedDershowitzSpec)

/-- ITS FALSE NEIGHBOUR: 'it returns false'. Refute it at one input. -/
def embedDershowitzWrong : ChangeSpec := { name := "embedDershowitz", fn := fun _ => fun
  | [d1, d2, d3, d4] => { results := [.lit (.bool false)], args := [d1, d2, d3, d4] }
  | _ => none }
def EmbedDershowitzWrongFalsely : Prop := embedDershowitzRow.holds Try.pinned (OpenSpec.ofChange embedDershowitzWrong)

/-- 'hasselaw.EmbedCorners': WHATEVER THE INPUT: true; the input reads as it did. -/
def embedCornersSpec : ChangeSpec := { name := "embedCorners", fn := fun _ => fun
  | [d] => { results := [.lit (.bool true)], args := [d] }
  | _ => none }
def embedCornersRow : OpenClaim := { program := "yteingglnhmfieaa", sum := "acdda8228cfc89119556267b7e4a3d830e3d06cd432b0e93e627c846812b6def", func := "hasse/hasselaw.EmbedCorners", spec := "embedCorners", unfollowed := true, recurses := true, apart := false }
def EmbedCornersSaid : Prop := embedCornersRow.holds Try.pinned (OpenSpec.ofChange embedCornersSpec)

/-- ITS FALSE NEIGHBOUR: 'it returns false'. Refute it at one input. -/
def embedCornersWrong : ChangeSpec := { name := "embedCorners", fn := fun _ => fun
  | [d] => { results := [.lit (.bool false)], args := [d] }
  | _ => none }
def EmbedCornersWrongFalsely : Prop := embedCornersRow.holds Try.pinned (OpenSpec.ofChange embedCornersWrong)

/-- 'hasselaw.EmbedDickson': WHATEVER THE INPUT: true; the input reads as it did. -/
def embedDicksonSpec : ChangeSpec := { name := "embedDickson", fn := fun _ => fun
  | [d] => { results := [.lit (.bool true)], args := [d] }
  | _ => none }
def embedDicksonRow : OpenClaim := { program := "yteingglnhmfieaa", sum := "acdda8228cfc89119556267b7e4a3d830e3d06cd432b0e93e627c846812b6def", func := "hasse/hasselaw.EmbedDickson", spec := "embedDickson", unfollowed := true, recurses := true, apart := false }
def EmbedDicksonSaid : Prop := embedDicksonRow.holds Try.pinned (OpenSpec.ofChange embedDicksonSpec)

/-- ITS FALSE NEIGHBOUR: 'it returns false'. Refute it at one input. -/
def embedDicksonWrong : ChangeSpec := { name := "embedDickson", fn := fun _ => fun
  | [d] => { results := [.lit (.bool false)], args := [d] }
  | _ => none }
def EmbedDicksonWrongFalsely : Prop := embedDicksonRow.holds Try.pinned (OpenSpec.ofChange embedDicksonWrong)

/-- 'hasselaw.EmbedGood': WHATEVER THE INPUT: true; the input reads as it did. -/
def embedGoodSpec : ChangeSpec := { name := "embedGood", fn := fun _ => fun
  | [d1, d2] => { results := [.lit (.bool true)], args := [d1, d2] }
  | _ => none }
def embedGoodRow : OpenClaim := { program := "yteingglnhmfieaa", sum := "acdda8228cfc89119556267b7e4a3d830e3d06cd432b0e93e627c846812b6def", func := "hasse/hasselaw.EmbedGood", spec := "embedGood", unfollowed := true, recurses := true, apart := false }
def EmbedGoodSaid : Prop := embedGoodRow.holds Try.pinned (OpenSpec.ofChange embedGoodSpec)

/-- ITS FALSE NEIGHBOUR: 'it returns false'. Refute it at one input. -/
def embedGoodWrong : ChangeSpec := { name := "embedGood", fn := fun _ => fun
  | [d1, d2] => { results := [.lit (.bool false)], args := [d1, d2] }
  | _ => none }
def EmbedGoodWrongFalsely : Prop := embedGoodRow.holds Try.pinned (OpenSpec.ofChange embedGoodWrong)

/-- 'hasselaw.MoebiusMu': WHATEVER THE INPUT: true; the input reads as it did. -/
def moebiusMuSpec : ChangeSpec := { name := "moebiusMu", fn := fun _ => fun
  | [d1, d2, d3] => { results := [.lit (.bool true)], args := [d1, d2, d3] }
  | _ => none }
def moebiusMuRow : OpenClaim := { program := "yteingglnhmfieaa", sum := "acdda8228cfc89119556267b7e4a3d830e3d06cd432b0e93e627c846812b6def", func := "hasse/hasselaw.MoebiusMu", spec := "moebiusMu", unfollowed := true, recurses := true, apart := false }
def MoebiusMuSaid : Prop := moebiusMuRow.holds Try.pinned (OpenSpec.ofChange moebiusMuSpec)

/-- ITS FALSE NEIGHBOUR: 'it returns false'. Refute it at one input. -/
def moebiusMuWrong : ChangeSpec := { name := "moebiusMu", fn := fun _ => fun
  | [d1, d2, d3] => { results := [.lit (.bool false)], args := [d1, d2, d3] }
  | _ => none }
def MoebiusMuWrongFalsely : Prop := moebiusMuRow.holds Try.pinned (OpenSpec.ofChange moebiusMuWrong)

/-- 'hasselaw.OrderReduces': WHATEVER THE INPUT: true; the input reads as it did. -/
def orderReducesSpec : ChangeSpec := { name := "orderReduces", fn := fun _ => fun
  | [d1, d2] => { results := [.lit (.bool true)], args := [d1, d2] }
  | _ => none }
def orderReducesRow : OpenClaim := { program := "yteingglnhmfieaa", sum := "acdda8228cfc89119556267b7e4a3d830e3d06cd432b0e93e627c846812b6def", func := "hasse/hasselaw.OrderReduces", spec := "orderReduces", apart := false }
def OrderReducesSaid : Prop := orderReducesRow.holds Try.pinned (OpenSpec.ofChange orderReducesSpec)

/-- ITS FALSE NEIGHBOUR: 'it returns false'. Refute it at one input. -/
def orderReducesWrong : ChangeSpec := { name := "orderReduces", fn := fun _ => fun
  | [d1, d2] => { results := [.lit (.bool false)], args := [d1, d2] }
  | _ => none }
def OrderReducesWrongFalsely : Prop := orderReducesRow.holds Try.pinned (OpenSpec.ofChange orderReducesWrong)

/- THE SECOND FORM. 'bulk': how many values and letters a reading holds, each counted each time it is reached (what is shared counts as often as it is met; a slice's spare places count too). A statement '..UptoSaid' is the law's where the arguments, and the package variables that the reading takes, are together of bulk at most 1048576: NARROWER than '..Said'. Prove '..Said' where nothing that the law and all that it calls make is longer than what came in: it says more and counts as full. Else prove '..UptoSaid'. A law counts once. -/
mutual
def uptoBulk {H : Type} : DataW H → Nat
  | .lit (.string bytes) => bytes.length + 1
  | .lit _ => 1
  | .nil => 1
  | .ptr d => uptoBulk d + 1
  | .slice elems spare => uptoBulkAll elems + uptoBulkAll spare + 1
  | .agg parts => uptoBulkAll parts + 1
  | .iface _ d => uptoBulk d + 1
  | .map entries => uptoBulkEntries entries + 1
  | .held _ => 1
def uptoBulkAll {H : Type} : List (DataW H) → Nat
  | [] => 0
  | d :: r => uptoBulk d + uptoBulkAll r
def uptoBulkEntries {H : Type} : List (Lit × DataW H) → Nat
  | [] => 0
  | x :: r => uptoBulkEntry x + uptoBulkEntries r
def uptoBulkEntry {H : Type} : Lit × DataW H → Nat
  | (.string bytes, d) => bytes.length + uptoBulk d + 1
  | (_, d) => uptoBulk d + 1
 end
def uptoSmall : (H : Type) → List (DataW H) → Bool := fun _ ds => decide (uptoBulkAll ds ≤ 1048576)
def OpenSpec.upto (s : _root_.Go.ChangeSpec) : _root_.Go.OpenSpec := { _root_.Go.OpenSpec.ofChange s with cond := some uptoSmall }

/-- 'hasselaw.EmbedDivides', WHERE WHAT IT READS IS OF BULK AT MOST 1048576: true; the input reads as it did. -/
def embedDividesUptoRow : OpenClaim := { program := "yteingglnhmfieaa", sum := "acdda8228cfc89119556267b7e4a3d830e3d06cd432b0e93e627c846812b6def", func := "hasse/hasselaw.EmbedDivides", spec := "embedDivides", unfollowed := true, recurses := true, apart := false, narrowed := true }
def EmbedDividesUptoSaid : Prop := embedDividesUptoRow.holds Try.pinned (OpenSpec.upto embedDividesSpec)

/-- 'hasselaw.EmbedInto', WHERE WHAT IT READS IS OF BULK AT MOST 1048576: true; the input reads as it did. -/
def embedIntoUptoRow : OpenClaim := { program := "yteingglnhmfieaa", sum := "acdda8228cfc89119556267b7e4a3d830e3d06cd432b0e93e627c846812b6def", func := "hasse/hasselaw.EmbedInto", spec := "embedInto", unfollowed := true, recurses := true, apart := false, narrowed := true }
def EmbedIntoUptoSaid : Prop := embedIntoUptoRow.holds Try.pinned (OpenSpec.upto embedIntoSpec)

/-- 'hasselaw.EmbedLeast', WHERE WHAT IT READS IS OF BULK AT MOST 1048576: true; the input reads as it did. -/
def embedLeastUptoRow : OpenClaim := { program := "yteingglnhmfieaa", sum := "acdda8228cfc89119556267b7e4a3d830e3d06cd432b0e93e627c846812b6def", func := "hasse/hasselaw.EmbedLeast", spec := "embedLeast", unfollowed := true, recurses := true, apart := false, narrowed := true }
def EmbedLeastUptoSaid : Prop := embedLeastUptoRow.holds Try.pinned (OpenSpec.upto embedLeastSpec)

/-- 'hasselaw.EmbedLighter', WHERE WHAT IT READS IS OF BULK AT MOST 1048576: true; the input reads as it did. -/
def embedLighterUptoRow : OpenClaim := { program := "yteingglnhmfieaa", sum := "acdda8228cfc89119556267b7e4a3d830e3d06cd432b0e93e627c846812b6def", func := "hasse/hasselaw.EmbedLighter", spec := "embedLighter", unfollowed := true, recurses := true, apart := false, narrowed := true }
def EmbedLighterUptoSaid : Prop := embedLighterUptoRow.holds Try.pinned (OpenSpec.upto embedLighterSpec)

/-- 'hasselaw.EmbedHigman', WHERE WHAT IT READS IS OF BULK AT MOST 1048576: true; the input reads as it did. -/
def embedHigmanUptoRow : OpenClaim := { program := "yteingglnhmfieaa", sum := "acdda8228cfc89119556267b7e4a3d830e3d06cd432b0e93e627c846812b6def", func := "hasse/hasselaw.EmbedHigman", spec := "embedHigman", unfollowed := true, recurses := true, apart := false, narrowed := true }
def EmbedHigmanUptoSaid : Prop := embedHigmanUptoRow.holds Try.pinned (OpenSpec.upto embedHigmanSpec)

/-- 'hasselaw.EmbedGoes', WHERE WHAT IT READS IS OF BULK AT MOST 1048576: true; the input reads as it did. -/
def embedGoesUptoRow : OpenClaim := { program := "yteingglnhmfieaa", sum := "acdda8228cfc89119556267b7e4a3d830e3d06cd432b0e93e627c846812b6def", func := "hasse/hasselaw.EmbedGoes", spec := "embedGoes", unfollowed := true, recurses := true, apart := false, narrowed := true }
def EmbedGoesUptoSaid : Prop := embedGoesUptoRow.holds Try.pinned (OpenSpec.upto embedGoesSpec)

/-- 'hasselaw.EmbedDershowitz', WHERE WHAT IT READS IS OF BULK AT MOST 1048576: true; the input reads as it did. -/
def embedDershowitzUptoRow : OpenClaim := { program := "yteingglnhmfieaa", sum := "acdda8228cfc89119556267b7e4a3d830e3d06cd432b0e93e627c846812b6def", func := "hasse/hasselaw.EmbedDershowitz", spec := "embedDershowitz", unfollowed := true, recurses := true, apart := false, narrowed := true }
def EmbedDershowitzUptoSaid : Prop := embedDershowitzUptoRow.holds Try.pinned (OpenSpec.upto embedDershowitzSpec)

/-- 'hasselaw.EmbedCorners', WHERE WHAT IT READS IS OF BULK AT MOST 1048576: true; the input reads as it did. -/
def embedCornersUptoRow : OpenClaim := { program := "yteingglnhmfieaa", sum := "acdda8228cfc89119556267b7e4a3d830e3d06cd432b0e93e627c846812b6def", func := "hasse/hasselaw.EmbedCorners", spec := "embedCorners", unfollowed := true, recurses := true, apart := false, narrowed := true }
def EmbedCornersUptoSaid : Prop := embedCornersUptoRow.holds Try.pinned (OpenSpec.upto embedCornersSpec)

/-- 'hasselaw.EmbedDickson', WHERE WHAT IT READS IS OF BULK AT MOST 1048576: true; the input reads as it did. -/
def embedDicksonUptoRow : OpenClaim := { program := "yteingglnhmfieaa", sum := "acdda8228cfc89119556267b7e4a3d830e3d06cd432b0e93e627c846812b6def", func := "hasse/hasselaw.EmbedDickson", spec := "embedDickson", unfollowed := true, recurses := true, apart := false, narrowed := true }
def EmbedDicksonUptoSaid : Prop := embedDicksonUptoRow.holds Try.pinned (OpenSpec.upto embedDicksonSpec)

/-- 'hasselaw.EmbedGood', WHERE WHAT IT READS IS OF BULK AT MOST 1048576: true; the input reads as it did. -/
def embedGoodUptoRow : OpenClaim := { program := "yteingglnhmfieaa", sum := "acdda8228cfc89119556267b7e4a3d830e3d06cd432b0e93e627c846812b6def", func := "hasse/hasselaw.EmbedGood", spec := "embedGood", unfollowed := true, recurses := true, apart := false, narrowed := true }
def EmbedGoodUptoSaid : Prop := embedGoodUptoRow.holds Try.pinned (OpenSpec.upto embedGoodSpec)

/-- 'hasselaw.MoebiusMu', WHERE WHAT IT READS IS OF BULK AT MOST 1048576: true; the input reads as it did. -/
def moebiusMuUptoRow : OpenClaim := { program := "yteingglnhmfieaa", sum := "acdda8228cfc89119556267b7e4a3d830e3d06cd432b0e93e627c846812b6def", func := "hasse/hasselaw.MoebiusMu", spec := "moebiusMu", unfollowed := true, recurses := true, apart := false, narrowed := true }
def MoebiusMuUptoSaid : Prop := moebiusMuUptoRow.holds Try.pinned (OpenSpec.upto moebiusMuSpec)

/-- 'hasselaw.OrderReduces', WHERE WHAT IT READS IS OF BULK AT MOST 1048576: true; the input reads as it did. -/
def orderReducesUptoRow : OpenClaim := { program := "yteingglnhmfieaa", sum := "acdda8228cfc89119556267b7e4a3d830e3d06cd432b0e93e627c846812b6def", func := "hasse/hasselaw.OrderReduces", spec := "orderReduces", apart := false, narrowed := true }
def OrderReducesUptoSaid : Prop := orderReducesUptoRow.holds Try.pinned (OpenSpec.upto orderReducesSpec)

end Rows
end Go.Proofs.Yteingglnhmfieaa
