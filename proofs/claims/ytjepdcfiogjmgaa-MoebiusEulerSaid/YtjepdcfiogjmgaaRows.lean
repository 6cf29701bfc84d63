/-
  No cell of these rows narrows 'for every input' (looked for: loops, veiled, ifaces, maps, wideKeys, modest, calm, conditions, laid).
  DERIVED. THE GIVEN ROWS OF THIS SEAT. 12 by the template 'for every input the law returns true; each argument reads behind the call as it read before'; 0 by the template 'total and deterministic' (their statements: YtjepdcfiogjmgaaTotals.lean).
  GIVEN WITH THE SEED: the statements are not yours to turn. If you find one false, say at which input.
  Laid BY PROGRAM, IN A SANDBOX (cutbox-rows.mjs): the forced cells as the released guide's own fill.sh prints them over the translation 0f3b3431fb708063… (all of the seat's roots in one cut). By AI agents, Wed Nov 11 2026. No macro, syntax, notation, axiom, sorry.
-/
import Derived.Test.YtjepdcfiogjmgaaChecked
import GoSem.Claim
import GoSem.ClaimJoined
import GoSem.ClaimMapViews
import Derived.JoinedTies
import Derived.KernelRfl
namespace Go.Proofs.Ytjepdcfiogjmgaa
/- THE CELL 'sum', in the pinned program and in every row, IS THE sha256 OF THE DUMP (.gsa) THAT YtjepdcfiogjmgaaProg.lean LOADS. Nothing in Lean hashes anything: it is a label: what it is worth is what the hold of that sum in a sandbox is worth. -/
noncomputable def Try.pinned : Pinned := { name := "ytjepdcfiogjmgaa", sum := "0f3b3431fb708063696168475d2509522410921157d1287ed56f24d98e21c1ca", checked := Try.checked }
namespace Rows
def none {H : Type} : Left H := { results := [], args := [] }

/-- 'hasselaw.IdealLattices': WHATEVER THE INPUT: true; the input reads as it did. -/
def idealLatticesSpec : ChangeSpec := { name := "idealLattices", fn := fun _ => fun
  | [d] => { results := [.lit (.bool true)], args := [d] }
  | _ => none }
def idealLatticesRow : OpenClaim := { program := "ytjepdcfiogjmgaa", sum := "0f3b3431fb708063696168475d2509522410921157d1287ed56f24d98e21c1ca", func := "hasse/hasselaw.IdealLattices", spec := "idealLattices", unfollowed := true, recurses := true, apart := false }
def IdealLatticesSaid : Prop := idealLatticesRow.holds Try.pinned (OpenSpec.ofChange idealLatticesSpec)

/-- ITS FALSE NEIGHBOUR: 'it returns false'. Refute it at one input. -/
def idealLatticesWrong : ChangeSpec := { name := "idealLattices", fn := fun _ => fun
  | [d] => { results := [.lit (.bool false)], args := [d] }
  | _ => none }
def IdealLatticesWrongFalsely : Prop := idealLatticesRow.holds Try.pinned (OpenSpec.ofChange idealLatticesWrong)

/-- 'hasselaw.ConceptLattices': WHATEVER THE INPUT: true; the input reads as it did. -/
def conceptLatticesSpec : ChangeSpec := { name := "conceptLattices", fn := fun _ => fun
  | [d] => { results := [.lit (.bool true)], args := [d] }
  | _ => none }
def conceptLatticesRow : OpenClaim := { program := "ytjepdcfiogjmgaa", sum := "0f3b3431fb708063696168475d2509522410921157d1287ed56f24d98e21c1ca", func := "hasse/hasselaw.ConceptLattices", spec := "conceptLattices", unfollowed := true, recurses := true, apart := false }
def ConceptLatticesSaid : Prop := conceptLatticesRow.holds Try.pinned (OpenSpec.ofChange conceptLatticesSpec)

/-- ITS FALSE NEIGHBOUR: 'it returns false'. Refute it at one input. -/
def conceptLatticesWrong : ChangeSpec := { name := "conceptLattices", fn := fun _ => fun
  | [d] => { results := [.lit (.bool false)], args := [d] }
  | _ => none }
def ConceptLatticesWrongFalsely : Prop := conceptLatticesRow.holds Try.pinned (OpenSpec.ofChange conceptLatticesWrong)

/-- 'hasselaw.ConceptBasic': WHATEVER THE INPUT: true; the input reads as it did. -/
def conceptBasicSpec : ChangeSpec := { name := "conceptBasic", fn := fun _ => fun
  | [d] => { results := [.lit (.bool true)], args := [d] }
  | _ => none }
def conceptBasicRow : OpenClaim := { program := "ytjepdcfiogjmgaa", sum := "0f3b3431fb708063696168475d2509522410921157d1287ed56f24d98e21c1ca", func := "hasse/hasselaw.ConceptBasic", spec := "conceptBasic", unfollowed := true, recurses := true, apart := false }
def ConceptBasicSaid : Prop := conceptBasicRow.holds Try.pinned (OpenSpec.ofChange conceptBasicSpec)

/-- ITS FALSE NEIGHBOUR: 'it returns false'. Refute it at one input. -/
def conceptBasicWrong : ChangeSpec := { name := "conceptBasic", fn := fun _ => fun
  | [d] => { results := [.lit (.bool false)], args := [d] }
  | _ => none }
def ConceptBasicWrongFalsely : Prop := conceptBasicRow.holds Try.pinned (OpenSpec.ofChange conceptBasicWrong)

/-- 'hasselaw.IdealBirkhoff': WHATEVER THE INPUT: true; the input reads as it did. -/
def idealBirkhoffSpec : ChangeSpec := { name := "idealBirkhoff", fn := fun _ => fun
  | [d] => { results := [.lit (.bool true)], args := [d] }
  | _ => none }
def idealBirkhoffRow : OpenClaim := { program := "ytjepdcfiogjmgaa", sum := "0f3b3431fb708063696168475d2509522410921157d1287ed56f24d98e21c1ca", func := "hasse/hasselaw.IdealBirkhoff", spec := "idealBirkhoff", unfollowed := true, recurses := true, apart := false }
def IdealBirkhoffSaid : Prop := idealBirkhoffRow.holds Try.pinned (OpenSpec.ofChange idealBirkhoffSpec)

/-- ITS FALSE NEIGHBOUR: 'it returns false'. Refute it at one input. -/
def idealBirkhoffWrong : ChangeSpec := { name := "idealBirkhoff", fn := fun _ => fun
  | [d] => { results := [.lit (.bool false)], args := [d] }
  | _ => none }
def IdealBirkhoffWrongFalsely : Prop := idealBirkhoffRow.holds Try.pinned (OpenSpec.ofChange idealBirkhoffWrong)

/-- 'hasselaw.IdealBack': WHATEVER THE INPUT: true; the input reads as it did. -/
def idealBackSpec : ChangeSpec := { name := "idealBack", fn := fun _ => fun
  | [d] => { results := [.lit (.bool true)], args := [d] }
  | _ => none }
def idealBackRow : OpenClaim := { program := "ytjepdcfiogjmgaa", sum := "0f3b3431fb708063696168475d2509522410921157d1287ed56f24d98e21c1ca", func := "hasse/hasselaw.IdealBack", spec := "idealBack", unfollowed := true, recurses := true, apart := false }
def IdealBackSaid : Prop := idealBackRow.holds Try.pinned (OpenSpec.ofChange idealBackSpec)

/-- ITS FALSE NEIGHBOUR: 'it returns false'. Refute it at one input. -/
def idealBackWrong : ChangeSpec := { name := "idealBack", fn := fun _ => fun
  | [d] => { results := [.lit (.bool false)], args := [d] }
  | _ => none }
def IdealBackWrongFalsely : Prop := idealBackRow.holds Try.pinned (OpenSpec.ofChange idealBackWrong)

/-- 'hasselaw.LevelChains': WHATEVER THE INPUT: true; the input reads as it did. -/
def levelChainsSpec : ChangeSpec := { name := "levelChains", fn := fun _ => fun
  | [d] => { results := [.lit (.bool true)], args := [d] }
  | _ => none }
def levelChainsRow : OpenClaim := { program := "ytjepdcfiogjmgaa", sum := "0f3b3431fb708063696168475d2509522410921157d1287ed56f24d98e21c1ca", func := "hasse/hasselaw.LevelChains", spec := "levelChains", apart := false }
def LevelChainsSaid : Prop := levelChainsRow.holds Try.pinned (OpenSpec.ofChange levelChainsSpec)

/-- ITS FALSE NEIGHBOUR: 'it returns false'. Refute it at one input. -/
def levelChainsWrong : ChangeSpec := { name := "levelChains", fn := fun _ => fun
  | [d] => { results := [.lit (.bool false)], args := [d] }
  | _ => none }
def LevelChainsWrongFalsely : Prop := levelChainsRow.holds Try.pinned (OpenSpec.ofChange levelChainsWrong)

/-- 'hasselaw.OrderMakes': WHATEVER THE INPUT: true; the input reads as it did. -/
def orderMakesSpec : ChangeSpec := { name := "orderMakes", fn := fun _ => fun
  | [d1, d2] => { results := [.lit (.bool true)], args := [d1, d2] }
  | _ => none }
def orderMakesRow : OpenClaim := { program := "ytjepdcfiogjmgaa", sum := "0f3b3431fb708063696168475d2509522410921157d1287ed56f24d98e21c1ca", func := "hasse/hasselaw.OrderMakes", spec := "orderMakes", unfollowed := true, recurses := true, apart := false }
def OrderMakesSaid : Prop := orderMakesRow.holds Try.pinned (OpenSpec.ofChange orderMakesSpec)

/-- ITS FALSE NEIGHBOUR: 'it returns false'. Refute it at one input. -/
def orderMakesWrong : ChangeSpec := { name := "orderMakes", fn := fun _ => fun
  | [d1, d2] => { results := [.lit (.bool false)], args := [d1, d2] }
  | _ => none }
def OrderMakesWrongFalsely : Prop := orderMakesRow.holds Try.pinned (OpenSpec.ofChange orderMakesWrong)

/-- 'hasselaw.MoebiusMu': WHATEVER THE INPUT: true; the input reads as it did. -/
def moebiusMuSpec : ChangeSpec := { name := "moebiusMu", fn := fun _ => fun
  | [d1, d2, d3] => { results := [.lit (.bool true)], args := [d1, d2, d3] }
  | _ => none }
def moebiusMuRow : OpenClaim := { program := "ytjepdcfiogjmgaa", sum := "0f3b3431fb708063696168475d2509522410921157d1287ed56f24d98e21c1ca", func := "hasse/hasselaw.MoebiusMu", spec := "moebiusMu", unfollowed := true, recurses := true, apart := false }
def MoebiusMuSaid : Prop := moebiusMuRow.holds Try.pinned (OpenSpec.ofChange moebiusMuSpec)

/-- ITS FALSE NEIGHBOUR: 'it returns false'. Refute it at one input. -/
def moebiusMuWrong : ChangeSpec := { name := "moebiusMu", fn := fun _ => fun
  | [d1, d2, d3] => { results := [.lit (.bool false)], args := [d1, d2, d3] }
  | _ => none }
def MoebiusMuWrongFalsely : Prop := moebiusMuRow.holds Try.pinned (OpenSpec.ofChange moebiusMuWrong)

/-- 'hasselaw.MoebiusSums': WHATEVER THE INPUT: true; the input reads as it did. -/
def moebiusSumsSpec : ChangeSpec := { name := "moebiusSums", fn := fun _ => fun
  | [d1, d2] => { results := [.lit (.bool true)], args := [d1, d2] }
  | _ => none }
def moebiusSumsRow : OpenClaim := { program := "ytjepdcfiogjmgaa", sum := "0f3b3431fb708063696168475d2509522410921157d1287ed56f24d98e21c1ca", func := "hasse/hasselaw.MoebiusSums", spec := "moebiusSums", unfollowed := true, recurses := true, apart := false }
def MoebiusSumsSaid : Prop := moebiusSumsRow.holds Try.pinned (OpenSpec.ofChange moebiusSumsSpec)

/-- ITS FALSE NEIGHBOUR: 'it returns false'. Refute it at one input. -/
def moebiusSumsWrong : ChangeSpec := { name := "moebiusSums", fn := fun _ => fun
  | [d1, d2] => { results := [.lit (.bool false)], args := [d1, d2] }
  | _ => none }
def MoebiusSumsWrongFalsely : Prop := moebiusSumsRow.holds Try.pinned (OpenSpec.ofChange moebiusSumsWrong)

/-- 'hasselaw.MoebiusEuler': WHATEVER THE INPUT: true; the input reads as it did. -/
def moebiusEulerSpec : ChangeSpec := { name := "moebiusEuler", fn := fun _ => fun
  | [d] => { results := [.lit (.bool true)], args := [d] }
  | _ => none }
def moebiusEulerRow : OpenClaim := { program := "ytjepdcfiogjmgaa", sum := "0f3b3431fb708063696168475d2509522410921157d1287ed56f24d98e21c1ca", func := "hasse/hasselaw.MoebiusEuler", spec := "moebiusEuler", unfollowed := true, recurses := true, apart := false }
def MoebiusEulerSaid : Prop := moebiusEulerRow.holds Try.pinned (OpenSpec.ofChange moebiusEulerSpec)

/-- ITS FALSE NEIGHBOUR: 'it returns false'. Refute it at one input. -/
def moebiusEulerWrong : ChangeSpec := { name := "moebiusEuler", fn := fun _ => fun
  | [d] => { results := [.lit (.bool false)], args := [d] }
  | _ => none }
def MoebiusEulerWrongFalsely : Prop := moebiusEulerRow.holds Try.pinned (OpenSpec.ofChange moebiusEulerWrong)

/-- 'hasselaw.PromoteOrbits': WHATEVER THE INPUT: true; the input reads as it did. -/
def promoteOrbitsSpec : ChangeSpec := { name := "promoteOrbits", fn := fun _ => fun
  | [d1, d2] => { results := [.lit (.bool true)], args := [d1, d2] }
  | _ => none }
def promoteOrbitsRow : OpenClaim := { program := "ytjepdcfiogjmgaa", sum := "0f3b3431fb708063696168475d2509522410921157d1287ed56f24d98e21c1ca", func := "hasse/hasselaw.PromoteOrbits", spec := "promoteOrbits", apart := false }
def PromoteOrbitsSaid : Prop := promoteOrbitsRow.holds Try.pinned (OpenSpec.ofChange promoteOrbitsSpec)

/-- ITS FALSE NEIGHBOUR: 'it returns false'. Refute it at one input. -/
def promoteOrbitsWrong : ChangeSpec := { name := "promoteOrbits", fn := fun _ => fun
  | [d1, d2] => { results := [.lit (.bool false)], args := [d1, d2] }
  | _ => none }
def PromoteOrbitsWrongFalsely : Prop := promoteOrbitsRow.holds Try.pinned (OpenSpec.ofChange promoteOrbitsWrong)

/-- 'hasselaw.PromotePromotes': WHATEVER THE INPUT: true; the input reads as it did. -/
def promotePromotesSpec : ChangeSpec := { name := "promotePromotes", fn := fun _ => fun
  | [d1, d2] => { results := [.lit (.bool true)], args := [d1, d2] }
  | _ => none }
def promotePromotesRow : OpenClaim := { program := "ytjepdcfiogjmgaa", sum := "0f3b3431fb708063696168475d2509522410921157d1287ed56f24d98e21c1ca", func := "hasse/hasselaw.PromotePromotes", spec := "promotePromotes", apart := false }
def PromotePromotesSaid : Prop := promotePromotesRow.holds Try.pinned (OpenSpec.ofChange promotePromotesSpec)

/-- ITS FALSE NEIGHBOUR: 'it returns false'. Refute it at one input. -/
def promotePromotesWrong : ChangeSpec := { name := "promotePromotes", fn := fun _ => fun
  | [d1, d2] => { results := [.lit (.bool false)], args := [d1, d2] }
  | _ => none }
def PromotePromotesWrongFalsely : Prop := promotePromotesRow.holds Try.pinned (OpenSpec.ofChange promotePromotesWrong)

/- THE SECOND FORM. 'bulk': how many values and letters a reading holds, each counted each time it is reached (what is shared counts as often as it is met; a slice's spare places count too). A statement '..UptoSaid' is the law's where the arguments, and the package variables that the reading takes, are together of bulk at most 1048576: NARROWER than '..Said'. Prove '..Said' where nothing that the law and all that it calls make is longer than what came in: it says more and counts as full. Else prove '..UptoSaid'. A law counts once. -/
mutual
def uptoBulk {H : Type} : DataW H → Nat
  | .lit (.string bytes) => bytes.length + 1
  | .lit _ => 1
  | .nil => 1
  | .ptr d => uptoBulk d + 1
  | .slice elems spare => uptoBulkAll elems + uptoBulkAll spare + 1
  | .agg parts => uptoBulkAll parts + 1
  | .iface _ d => uptoBulk d + 1
  | .map entries => uptoBulkEntries entries + 1
  | .held _ => 1
def uptoBulkAll {H : Type} : List (DataW H) → Nat
  | [] => 0
  | d :: r => uptoBulk d + uptoBulkAll r
def uptoBulkEntries {H : Type} : List (Lit × DataW H) → Nat
  | [] => 0
  | x :: r => uptoBulkEntry x + uptoBulkEntries r
def uptoBulkEntry {H : Type} : Lit × DataW H → Nat
  | (.string bytes, d) => bytes.length + uptoBulk d + 1
  | (_, d) => uptoBulk d + 1
 end
def uptoSmall : (H : Type) → List (DataW H) → Bool := fun _ ds => decide (uptoBulkAll ds ≤ 1048576)
def OpenSpec.upto (s : _root_.Go.ChangeSpec) : _root_.Go.OpenSpec := { _root_.Go.OpenSpec.ofChange s with cond := some uptoSmall }

/-- 'hasselaw.IdealLattices', WHERE WHAT IT READS IS OF BULK AT MOST 1048576: true; the input reads as it did. -/
def idealLatticesUptoRow : OpenClaim := { program := "ytjepdcfiogjmgaa", sum := "0f3b3431fb708063696168475d2509522410921157d1287ed56f24d98e21c1ca", func := "hasse/hasselaw.IdealLattices", spec := "idealLattices", unfollowed := true, recurses := true, apart := false, narrowed := true }
def IdealLatticesUptoSaid : Prop := idealLatticesUptoRow.holds Try.pinned (OpenSpec.upto idealLatticesSpec)

/-- 'hasselaw.ConceptLattices', WHERE WHAT IT READS IS OF BULK AT MOST 1048576: true; the input reads as it did. -/
def conceptLatticesUptoRow : OpenClaim := { program := "ytjepdcfiogjmgaa", sum := "0f3b3431fb708063696168475d2509522410921157d1287ed56f24d98e21c1ca", func := "hasse/hasselaw.ConceptLattices", spec := "conceptLattices", unfollowed := true, recurses := true, apart := false, narrowed := true }
def ConceptLatticesUptoSaid : Prop := conceptLatticesUptoRow.holds Try.pinned (OpenSpec.upto conceptLatticesSpec)

/-- 'hasselaw.ConceptBasic', WHERE WHAT IT READS IS OF BULK AT MOST 1048576: true; the input reads as it did. -/
def conceptBasicUptoRow : OpenClaim := { program := "ytjepdcfiogjmgaa", sum := "0f3b3431fb708063696168475d2509522410921157d1287ed56f24d98e21c1ca", func := "hasse/hasselaw.ConceptBasic", spec := "conceptBasic", unfollowed := true, recurses := true, apart := false, narrowed := true }
def ConceptBasicUptoSaid : Prop := conceptBasicUptoRow.holds Try.pinned (OpenSpec.upto conceptBasicSpec)

/-- 'hasselaw.IdealBirkhoff', WHERE WHAT IT READS IS OF BULK AT MOST 1048576: true; the input reads as it did. -/
def idealBirkhoffUptoRow : OpenClaim := { program := "ytjepdcfiogjmgaa", sum := "0f3b3431fb708063696168475d2509522410921157d1287ed56f24d98e21c1ca", func := "hasse/hasselaw.IdealBirkhoff", spec := "idealBirkhoff", unfollowed := true, recurses := true, apart := false, narrowed := true }
def IdealBirkhoffUptoSaid : Prop := idealBirkhoffUptoRow.holds Try.pinned (OpenSpec.upto idealBirkhoffSpec)

/-- 'hasselaw.IdealBack', WHERE WHAT IT READS IS OF BULK AT MOST 1048576: true; the input reads as it did. -/
def idealBackUptoRow : OpenClaim := { program := "ytjepdcfiogjmgaa", sum := "0f3b3431fb708063696168475d2509522410921157d1287ed56f24d98e21c1ca", func := "hasse/hasselaw.IdealBack", spec := "idealBack", unfollowed := true, recurses := true, apart := false, narrowed := true }
def IdealBackUptoSaid : Prop := idealBackUptoRow.holds Try.pinned (OpenSpec.upto idealBackSpec)

/-- 'hasselaw.LevelChains', WHERE WHAT IT READS IS OF BULK AT MOST 1048576: true; the input reads as it did. -/
def levelChainsUptoRow : OpenClaim := { program := "ytjepdcfiogjmgaa", sum := "0f3b3431fb708063696168475d2509522410921157d1287ed56f24d98e21c1ca", func := "hasse/hasselaw.LevelChains", spec := "levelChains", apart := false, narrowed := true }
def LevelChainsUptoSaid : Prop := levelChainsUptoRow.holds Try.pinned (OpenSpec.upto levelChainsSpec)

/-- 'hasselaw.OrderMakes', WHERE WHAT IT READS IS OF BULK AT MOST 1048576: true; the input reads as it did. -/
def orderMakesUptoRow : OpenClaim := { program := "ytjepdcfiogjmgaa", sum := "0f3b3431fb708063696168475d2509522410921157d1287ed56f24d98e21c1ca", func := "hasse/hasselaw.OrderMakes", spec := "orderMakes", unfollowed := true, recurses := true, apart := false, narrowed := true }
def OrderMakesUptoSaid : Prop := orderMakesUptoRow.holds Try.pinned (OpenSpec.upto orderMakesSpec)

/-- 'hasselaw.MoebiusMu', WHERE WHAT IT READS IS OF BULK AT MOST 1048576: true; the input reads as it did. -/
def moebiusMuUptoRow : OpenClaim := { program := "ytjepdcfiogjmgaa", sum := "0f3b3431fb708063696168475d2509522410921157d1287ed56f24d98e21c1ca", func := "hasse/hasselaw.MoebiusMu", spec := "moebiusMu", unfollowed := true, recurses := true, apart := false, narrowed := true }
def MoebiusMuUptoSaid : Prop := moebiusMuUptoRow.holds Try.pinned (OpenSpec.upto moebiusMuSpec)

/-- 'hasselaw.MoebiusSums', WHERE WHAT IT READS IS OF BULK AT MOST 1048576: true; the input reads as it did. -/
def moebiusSumsUptoRow : OpenClaim := { program := "ytjepdcfiogjmgaa", sum := "0f3b3431fb708063696168475d2509522410921157d1287ed56f24d98e21c1ca", func := "hasse/hasselaw.MoebiusSums", spec := "moebiusSums", unfollowed := true, recurses := true, apart := false, narrowed := true }
def MoebiusSumsUptoSaid : Prop := moebiusSumsUptoRow.holds Try.pinned (OpenSpec.upto moebiusSumsSpec)

/-- 'hasselaw.MoebiusEuler', WHERE WHAT IT READS IS OF BULK AT MOST 1048576: true; the input reads as it did. -/
def moebiusEulerUptoRow : OpenClaim := { program := "ytjepdcfiogjmgaa", sum := "0f3b3431fb708063696168475d2509522410921157d1287ed56f24d98e21c1ca", func := "hasse/hasselaw.MoebiusEuler", spec := "moebiusEuler", unfollowed := true, recurses := true, apart := false, narrowed := true }
def MoebiusEulerUptoSaid : Prop := moebiusEulerUptoRow.holds Try.pinned (OpenSpec.upto moebiusEulerSpec)

/-- 'hasselaw.PromoteOrbits', WHERE WHAT IT READS IS OF BULK AT MOST 1048576: true; the input reads as it did. -/
def promoteOrbitsUptoRow : OpenClaim := { program := "ytjepdcfiogjmgaa", sum := "0f3b3431fb708063696168475d2509522410921157d1287ed56f24d98e21c1ca", func := "hasse/hasselaw.PromoteOrbits", spec := "promoteOrbits", apart := false, narrowed := true }
def PromoteOrbitsUptoSaid : Prop := promoteOrbitsUptoRow.holds Try.pinned (OpenSpec.upto promoteOrbitsSpec)

/-- 'hasselaw.PromotePromotes', WHERE WHAT IT READS IS OF BULK AT MOST 1048576: true; the input reads as it did. -/
def promotePromotesUptoRow : OpenClaim := { program := "ytjepdcfiogjmgaa", sum := "0f3b3431fb708063696168475d2509522410921157d1287ed56f24d98e21c1ca", func := "hasse/hasselaw.PromotePromotes", spec := "promotePromotes", apart := false, narrowed := true }
def PromotePromotesUptoSaid : Prop := promotePromotesUptoRow.holds Try.pinned (OpenSpec.upto promotePromotesSpec)

end Rows
end Go.Proofs.Ytjepdcfiogjmgaa
