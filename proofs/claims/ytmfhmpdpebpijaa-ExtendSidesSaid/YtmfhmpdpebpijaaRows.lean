/-
  No cell of these rows narrows 'for every input' (looked for: loops, veiled, ifaces, maps, wideKeys, modest, calm, conditions, laid).
  DERIVED. THE GIVEN ROWS OF THIS SEAT. 12 by the template 'for every input the law returns true; each argument reads behind the call as it read before'; 0 by the template 'total and deterministic' (their statements: YtmfhmpdpebpijaaTotals.lean).
  GIVEN WITH THE SEED: the statements are not yours to turn. If you find one false, say at which input.
  Laid BY PROGRAM, IN A SANDBOX (cutbox-rows.mjs): the forced cells as the released guide's own fill.sh prints them over the translation 2f9a24e17323cad8… (all of the seat's roots in one cut). By AI agents, Wed Nov 11 2026. No macro, syntax, notation, axiom, sorry.
-/
import Derived.Test.YtmfhmpdpebpijaaChecked
import GoSem.Claim
import GoSem.ClaimJoined
import GoSem.ClaimMapViews
import Derived.JoinedTies
import Derived.KernelRfl
namespace Go.Proofs.Ytmfhmpdpebpijaa
/- THE CELL 'sum', in the pinned program and in every row, IS THE sha256 OF THE DUMP (.gsa) THAT YtmfhmpdpebpijaaProg.lean LOADS. Nothing in Lean hashes anything: it is a label: what it is worth is what the hold of that sum in a sandbox is worth. -/
noncomputable def Try.pinned : Pinned := { name := "ytmfhmpdpebpijaa", sum := "2f9a24e17323cad86971253390f533ddb69b0f0e5234cac16c2296cd6a6b4617", checked := Try.checked }
namespace Rows
def none {H : Type} : Left H := { results := [], args := [] }

/-- 'hasselaw.PromoteDemotes': WHATEVER THE INPUT: true; the input reads as it did. -/
def promoteDemotesSpec : ChangeSpec := { name := "promoteDemotes", fn := fun _ => fun
  | [d1, d2] => { results := [.lit (.bool true)], args := [d1, d2] }
  | _ => none }
def promoteDemotesRow : OpenClaim := { program := "ytmfhmpdpebpijaa", sum := "2f9a24e17323cad86971253390f533ddb69b0f0e5234cac16c2296cd6a6b4617", func := "hasse/hasselaw.PromoteDemotes", spec := "promoteDemotes", apart := false }
def PromoteDemotesSaid : Prop := promoteDemotesRow.holds Try.pinned (OpenSpec.ofChange promoteDemotesSpec)

/-- ITS FALSE NEIGHBOUR: 'it returns false'. Refute it at one input. -/
def promoteDemotesWrong : ChangeSpec := { name := "promoteDemotes", fn := fun _ => fun
  | [d1, d2] => { results := [.lit (.bool false)], args := [d1, d2] }
  | _ => none }
def PromoteDemotesWrongFalsely : Prop := promoteDemotesRow.holds Try.pinned (OpenSpec.ofChange promoteDemotesWrong)

/-- 'hasselaw.PromoteEvacuates': WHATEVER THE INPUT: true; the input reads as it did. -/
def promoteEvacuatesSpec : ChangeSpec := { name := "promoteEvacuates", fn := fun _ => fun
  | [d1, d2] => { results := [.lit (.bool true)], args := [d1, d2] }
  | _ => none }
def promoteEvacuatesRow : OpenClaim := { program := "ytmfhmpdpebpijaa", sum := "2f9a24e17323cad86971253390f533ddb69b0f0e5234cac16c2296cd6a6b4617", func := "hasse/hasselaw.PromoteEvacuates", spec := "promoteEvacuates", apart := false }
def PromoteEvacuatesSaid : Prop := promoteEvacuatesRow.holds Try.pinned (OpenSpec.ofChange promoteEvacuatesSpec)

/-- ITS FALSE NEIGHBOUR: 'it returns false'. Refute it at one input. -/
def promoteEvacuatesWrong : ChangeSpec := { name := "promoteEvacuates", fn := fun _ => fun
  | [d1, d2] => { results := [.lit (.bool false)], args := [d1, d2] }
  | _ => none }
def PromoteEvacuatesWrongFalsely : Prop := promoteEvacuatesRow.holds Try.pinned (OpenSpec.ofChange promoteEvacuatesWrong)

/-- 'hasselaw.PromoteBack': WHATEVER THE INPUT: true; the input reads as it did. -/
def promoteBackSpec : ChangeSpec := { name := "promoteBack", fn := fun _ => fun
  | [d1, d2] => { results := [.lit (.bool true)], args := [d1, d2] }
  | _ => none }
def promoteBackRow : OpenClaim := { program := "ytmfhmpdpebpijaa", sum := "2f9a24e17323cad86971253390f533ddb69b0f0e5234cac16c2296cd6a6b4617", func := "hasse/hasselaw.PromoteBack", spec := "promoteBack", apart := false }
def PromoteBackSaid : Prop := promoteBackRow.holds Try.pinned (OpenSpec.ofChange promoteBackSpec)

/-- ITS FALSE NEIGHBOUR: 'it returns false'. Refute it at one input. -/
def promoteBackWrong : ChangeSpec := { name := "promoteBack", fn := fun _ => fun
  | [d1, d2] => { results := [.lit (.bool false)], args := [d1, d2] }
  | _ => none }
def PromoteBackWrongFalsely : Prop := promoteBackRow.holds Try.pinned (OpenSpec.ofChange promoteBackWrong)

/-- 'hasselaw.PromoteTwice': WHATEVER THE INPUT: true; the input reads as it did. -/
def promoteTwiceSpec : ChangeSpec := { name := "promoteTwice", fn := fun _ => fun
  | [d1, d2] => { results := [.lit (.bool true)], args := [d1, d2] }
  | _ => none }
def promoteTwiceRow : OpenClaim := { program := "ytmfhmpdpebpijaa", sum := "2f9a24e17323cad86971253390f533ddb69b0f0e5234cac16c2296cd6a6b4617", func := "hasse/hasselaw.PromoteTwice", spec := "promoteTwice", apart := false }
def PromoteTwiceSaid : Prop := promoteTwiceRow.holds Try.pinned (OpenSpec.ofChange promoteTwiceSpec)

/-- ITS FALSE NEIGHBOUR: 'it returns false'. Refute it at one input. -/
def promoteTwiceWrong : ChangeSpec := { name := "promoteTwice", fn := fun _ => fun
  | [d1, d2] => { results := [.lit (.bool false)], args := [d1, d2] }
  | _ => none }
def PromoteTwiceWrongFalsely : Prop := promoteTwiceRow.holds Try.pinned (OpenSpec.ofChange promoteTwiceWrong)

/-- 'hasselaw.PromoteTurns': WHATEVER THE INPUT: true; the input reads as it did. -/
def promoteTurnsSpec : ChangeSpec := { name := "promoteTurns", fn := fun _ => fun
  | [d1, d2] => { results := [.lit (.bool true)], args := [d1, d2] }
  | _ => none }
def promoteTurnsRow : OpenClaim := { program := "ytmfhmpdpebpijaa", sum := "2f9a24e17323cad86971253390f533ddb69b0f0e5234cac16c2296cd6a6b4617", func := "hasse/hasselaw.PromoteTurns", spec := "promoteTurns", apart := false }
def PromoteTurnsSaid : Prop := promoteTurnsRow.holds Try.pinned (OpenSpec.ofChange promoteTurnsSpec)

/-- ITS FALSE NEIGHBOUR: 'it returns false'. Refute it at one input. -/
def promoteTurnsWrong : ChangeSpec := { name := "promoteTurns", fn := fun _ => fun
  | [d1, d2] => { results := [.lit (.bool false)], args := [d1, d2] }
  | _ => none }
def PromoteTurnsWrongFalsely : Prop := promoteTurnsRow.holds Try.pinned (OpenSpec.ofChange promoteTurnsWrong)

/-- 'hasselaw.MatchCovers': WHATEVER THE INPUT: true; the input reads as it did. -/
def matchCoversSpec : ChangeSpec := { name := "matchCovers", fn := fun _ => fun
  | [d] => { results := [.lit (.bool true)], args := [d] }
  | _ => none }
def matchCoversRow : OpenClaim := { program := "ytmfhmpdpebpijaa", sum := "2f9a24e17323cad86971253390f533ddb69b0f0e5234cac16c2296cd6a6b4617", func := "hasse/hasselaw.MatchCovers", spec := "matchCovers", recurses := true, apart := false }
def MatchCoversSaid : Prop := matchCoversRow.holds Try.pinned (OpenSpec.ofChange matchCoversSpec)

/-- ITS FALSE NEIGHBOUR: 'it returns false'. Refute it at one input. -/
def matchCoversWrong : ChangeSpec := { name := "matchCovers", fn := fun _ => fun
  | [d] => { results := [.lit (.bool false)], args := [d] }
  | _ => none }
def MatchCoversWrongFalsely : Prop := matchCoversRow.holds Try.pinned (OpenSpec.ofChange matchCoversWrong)

/-- 'hasselaw.MatchKoenig': WHATEVER THE INPUT: true; the input reads as it did. -/
def matchKoenigSpec : ChangeSpec := { name := "matchKoenig", fn := fun _ => fun
  | [d1, d2, d3, d4] => { results := [.lit (.bool true)], args := [d1, d2, d3, d4] }
  | _ => none }
def matchKoenigRow : OpenClaim := { program := "ytmfhmpdpebpijaa", sum := "2f9a24e17323cad86971253390f533ddb69b0f0e5234cac16c2296cd6a6b4617", func := "hasse/hasselaw.MatchKoenig", spec := "matchKoenig", recurses := true, apart := false }
def MatchKoenigSaid : Prop := matchKoenigRow.holds Try.pinned (OpenSpec.ofChange matchKoenigSpec)

/-- ITS FALSE NEIGHBOUR: 'it returns false'. Refute it at one input. -/
def matchKoenigWrong : ChangeSpec := { name := "matchKoenig", fn := fun _ => fun
  | [d1, d2, d3, d4] => { results := [.lit (.bool false)], args := [d1, d2, d3, d4] }
  | _ => none }
def MatchKoenigWrongFalsely : Prop := matchKoenigRow.holds Try.pinned (OpenSpec.ofChange matchKoenigWrong)

/-- 'hasselaw.MatchBest': WHATEVER THE INPUT: true; the input reads as it did. -/
def matchBestSpec : ChangeSpec := { name := "matchBest", fn := fun _ => fun
  | [d] => { results := [.lit (.bool true)], args := [d] }
  | _ => none }
def matchBestRow : OpenClaim := { program := "ytmfhmpdpebpijaa", sum := "2f9a24e17323cad86971253390f533ddb69b0f0e5234cac16c2296cd6a6b4617", func := "hasse/hasselaw.MatchBest", spec := "matchBest", recurses := true, apart := false }
def MatchBestSaid : Prop := matchBestRow.holds Try.pinned (OpenSpec.ofChange matchBestSpec)

/-- ITS FALSE NEIGHBOUR: 'it returns false'. Refute it at one input. -/
def matchBestWrong : ChangeSpec := { name := "matchBest", fn := fun _ => fun
  | [d] => { results := [.lit (.bool false)], args := [d] }
  | _ => none }
def MatchBestWrongFalsely : Prop := matchBestRow.holds Try.pinned (OpenSpec.ofChange matchBestWrong)

/-- 'hasselaw.MatchHall': WHATEVER THE INPUT: true; the input reads as it did. -/
def matchHallSpec : ChangeSpec := { name := "matchHall", fn := fun _ => fun
  | [d1, d2] => { results := [.lit (.bool true)], args := [d1, d2] }
  | _ => none }
def matchHallRow : OpenClaim := { program := "ytmfhmpdpebpijaa", sum := "2f9a24e17323cad86971253390f533ddb69b0f0e5234cac16c2296cd6a6b4617", func := "hasse/hasselaw.MatchHall", spec := "matchHall", recurses := true, apart := false }
def MatchHallSaid : Prop := matchHallRow.holds Try.pinned (OpenSpec.ofChange matchHallSpec)

/-- ITS FALSE NEIGHBOUR: 'it returns false'. Refute it at one input. -/
def matchHallWrong : ChangeSpec := { name := "matchHall", fn := fun _ => fun
  | [d1, d2] => { results := [.lit (.bool false)], args := [d1, d2] }
  | _ => none }
def MatchHallWrongFalsely : Prop := matchHallRow.holds Try.pinned (OpenSpec.ofChange matchHallWrong)

/-- 'hasselaw.ExtendSides': WHATEVER THE INPUT: true; the input reads as it did. -/
def extendSidesSpec : ChangeSpec := { name := "extendSides", fn := fun _ => fun
  | [d1, d2] => { results := [.lit (.bool true)], args := [d1, d2] }
  | _ => none }
def extendSidesRow : OpenClaim := { program := "ytmfhmpdpebpijaa", sum := "2f9a24e17323cad86971253390f533ddb69b0f0e5234cac16c2296cd6a6b4617", func := "hasse/hasselaw.ExtendSides", spec := "extendSides", apart := false }
def ExtendSidesSaid : Prop := extendSidesRow.holds Try.pinned (OpenSpec.ofChange extendSidesSpec)

/-- ITS FALSE NEIGHBOUR: 'it returns false'. Refute it at one input. -/
def extendSidesWrong : ChangeSpec := { name := "extendSides", fn := fun _ => fun
  | [d1, d2] => { results := [.lit (.bool false)], args := [d1, d2] }
  | _ => none }
def ExtendSidesWrongFalsely : Prop := extendSidesRow.holds Try.pinned (OpenSpec.ofChange extendSidesWrong)

/-- 'hasselaw.ConceptGanter': WHATEVER THE INPUT: true; the input reads as it did. -/
def conceptGanterSpec : ChangeSpec := { name := "conceptGanter", fn := fun _ => fun
  | [d] => { results := [.lit (.bool true)], args := [d] }
  | _ => none }
def conceptGanterRow : OpenClaim := { program := "ytmfhmpdpebpijaa", sum := "2f9a24e17323cad86971253390f533ddb69b0f0e5234cac16c2296cd6a6b4617", func := "hasse/hasselaw.ConceptGanter", spec := "conceptGanter", unfollowed := true, recurses := true, apart := false }
def ConceptGanterSaid : Prop := conceptGanterRow.holds Try.pinned (OpenSpec.ofChange conceptGanterSpec)

/-- ITS FALSE NEIGHBOUR: 'it returns false'. Refute it at one input. -/
def conceptGanterWrong : ChangeSpec := { name := "conceptGanter", fn := fun _ => fun
  | [d] => { results := [.lit (.bool false)], args := [d] }
  | _ => none }
def ConceptGanterWrongFalsely : Prop := conceptGanterRow.holds Try.pinned (OpenSpec.ofChange conceptGanterWrong)

/-- 'hasselaw.LevelChains': WHATEVER THE INPUT: true; the input reads as it did. -/
def levelChainsSpec : ChangeSpec := { name := "levelChains", fn := fun _ => fun
  | [d] => { results := [.lit (.bool true)], args := [d] }
  | _ => none }
def levelChainsRow : OpenClaim := { program := "ytmfhmpdpebpijaa", sum := "2f9a24e17323cad86971253390f533ddb69b0f0e5234cac16c2296cd6a6b4617", func := "hasse/hasselaw.LevelChains", spec := "levelChains", apart := false }
def LevelChainsSaid : Prop := levelChainsRow.holds Try.pinned (OpenSpec.ofChange levelChainsSpec)

/-- ITS FALSE NEIGHBOUR: 'it returns false'. Refute it at one input. -/
def levelChainsWrong : ChangeSpec := { name := "levelChains", fn := fun _ => fun
  | [d] => { results := [.lit (.bool false)], args := [d] }
  | _ => none }
def LevelChainsWrongFalsely : Prop := levelChainsRow.holds Try.pinned (OpenSpec.ofChange levelChainsWrong)

/- THE SECOND FORM. 'bulk': how many values and letters a reading holds, each counted each time it is reached (what is shared counts as often as it is met; a slice's spare places count too). A statement '..UptoSaid' is the law's where the arguments, and the package variables that the reading takes, are together of bulk at most 1048576: NARROWER than '..Said'. Prove '..Said' where nothing that the law and all that it calls make is longer than what came in: it says more and counts as full. Else prove '..UptoSaid'. A law counts once. -/
mutual
def uptoBulk {H : Type} : DataW H → Nat
  | .lit (.string bytes) => bytes.length + 1
  | .lit _ => 1
  | .nil => 1
  | .ptr d => uptoBulk d + 1
  | .slice elems spare => uptoBulkAll elems + uptoBulkAll spare + 1
  | .agg parts => uptoBulkAll parts + 1
  | .iface _ d => uptoBulk d + 1
  | .map entries => uptoBulkEntries entries + 1
  | .held _ => 1
def uptoBulkAll {H : Type} : List (DataW H) → Nat
  | [] => 0
  | d :: r => uptoBulk d + uptoBulkAll r
def uptoBulkEntries {H : Type} : List (Lit × DataW H) → Nat
  | [] => 0
  | x :: r => uptoBulkEntry x + uptoBulkEntries r
def uptoBulkEntry {H : Type} : Lit × DataW H → Nat
  | (.string bytes, d) => bytes.length + uptoBulk d + 1
  | (_, d) => uptoBulk d + 1
 end
def uptoSmall : (H : Type) → List (DataW H) → Bool := fun _ ds => decide (uptoBulkAll ds ≤ 1048576)
def OpenSpec.upto (s : _root_.Go.ChangeSpec) : _root_.Go.OpenSpec := { _root_.Go.OpenSpec.ofChange s with cond := some uptoSmall }

/-- 'hasselaw.PromoteDemotes', WHERE WHAT IT READS IS OF BULK AT MOST 1048576: true; the input reads as it did. -/
def promoteDemotesUptoRow : OpenClaim := { program := "ytmfhmpdpebpijaa", sum := "2f9a24e17323cad86971253390f533ddb69b0f0e5234cac16c2296cd6a6b4617", func := "hasse/hasselaw.PromoteDemotes", spec := "promoteDemotes", apart := false, narrowed := true }
def PromoteDemotesUptoSaid : Prop := promoteDemotesUptoRow.holds Try.pinned (OpenSpec.upto promoteDemotesSpec)

/-- 'hasselaw.PromoteEvacuates', WHERE WHAT IT READS IS OF BULK AT MOST 1048576: true; the input reads as it did. -/
def promoteEvacuatesUptoRow : OpenClaim := { program := "ytmfhmpdpebpijaa", sum := "2f9a24e17323cad86971253390f533ddb69b0f0e5234cac16c2296cd6a6b4617", func := "hasse/hasselaw.PromoteEvacuates", spec := "promoteEvacuates", apart := false, narrowed := true }
def PromoteEvacuatesUptoSaid : Prop := promoteEvacuatesUptoRow.holds Try.pinned (OpenSpec.upto promoteEvacuatesSpec)

/-- 'hasselaw.PromoteBack', WHERE WHAT IT READS IS OF BULK AT MOST 1048576: true; the input reads as it did. -/
def promoteBackUptoRow : OpenClaim := { program := "ytmfhmpdpebpijaa", sum := "2f9a24e17323cad86971253390f533ddb69b0f0e5234cac16c2296cd6a6b4617", func := "hasse/hasselaw.PromoteBack", spec := "promoteBack", apart := false, narrowed := true }
def PromoteBackUptoSaid : Prop := promoteBackUptoRow.holds Try.pinned (OpenSpec.upto promoteBackSpec)

/-- 'hasselaw.PromoteTwice', WHERE WHAT IT READS IS OF BULK AT MOST 1048576: true; the input reads as it did. -/
def promoteTwiceUptoRow : OpenClaim := { program := "ytmfhmpdpebpijaa", sum := "2f9a24e17323cad86971253390f533ddb69b0f0e5234cac16c2296cd6a6b4617", func := "hasse/hasselaw.PromoteTwice", spec := "promoteTwice", apart := false, narrowed := true }
def PromoteTwiceUptoSaid : Prop := promoteTwiceUptoRow.holds Try.pinned (OpenSpec.upto promoteTwiceSpec)

/-- 'hasselaw.PromoteTurns', WHERE WHAT IT READS IS OF BULK AT MOST 1048576: true; the input reads as it did. -/
def promoteTurnsUptoRow : OpenClaim := { program := "ytmfhmpdpebpijaa", sum := "2f9a24e17323cad86971253390f533ddb69b0f0e5234cac16c2296cd6a6b4617", func := "hasse/hasselaw.PromoteTurns", spec := "promoteTurns", apart := false, narrowed := true }
def PromoteTurnsUptoSaid : Prop := promoteTurnsUptoRow.holds Try.pinned (OpenSpec.upto promoteTurnsSpec)

/-- 'hasselaw.MatchCovers', WHERE WHAT IT READS IS OF BULK AT MOST 1048576: true; the input reads as it did. -/
def matchCoversUptoRow : OpenClaim := { program := "ytmfhmpdpebpijaa", sum := "2f9a24e17323cad86971253390f533ddb69b0f0e5234cac16c2296cd6a6b4617", func := "hasse/hasselaw.MatchCovers", spec := "matchCovers", recurses := true, apart := false, narrowed := true }
def MatchCoversUptoSaid : Prop := matchCoversUptoRow.holds Try.pinned (OpenSpec.upto matchCoversSpec)

/-- 'hasselaw.MatchKoenig', WHERE WHAT IT READS IS OF BULK AT MOST 1048576: true; the input reads as it did. -/
def matchKoenigUptoRow : OpenClaim := { program := "ytmfhmpdpebpijaa", sum := "2f9a24e17323cad86971253390f533ddb69b0f0e5234cac16c2296cd6a6b4617", func := "hasse/hasselaw.MatchKoenig", spec := "matchKoenig", recurses := true, apart := false, narrowed := true }
def MatchKoenigUptoSaid : Prop := matchKoenigUptoRow.holds Try.pinned (OpenSpec.upto matchKoenigSpec)

/-- 'hasselaw.MatchBest', WHERE WHAT IT READS IS OF BULK AT MOST 1048576: true; the input reads as it did. -/
def matchBestUptoRow : OpenClaim := { program := "ytmfhmpdpebpijaa", sum := "2f9a24e17323cad86971253390f533ddb69b0f0e5234cac16c2296cd6a6b4617", func := "hasse/hasselaw.MatchBest", spec := "matchBest", recurses := true, apart := false, narrowed := true }
def MatchBestUptoSaid : Prop := matchBestUptoRow.holds Try.pinned (OpenSpec.upto matchBestSpec)

/-- 'hasselaw.MatchHall', WHERE WHAT IT READS IS OF BULK AT MOST 1048576: true; the input reads as it did. -/
def matchHallUptoRow : OpenClaim := { program := "ytmfhmpdpebpijaa", sum := "2f9a24e17323cad86971253390f533ddb69b0f0e5234cac16c2296cd6a6b4617", func := "hasse/hasselaw.MatchHall", spec := "matchHall", recurses := true, apart := false, narrowed := true }
def MatchHallUptoSaid : Prop := matchHallUptoRow.holds Try.pinned (OpenSpec.upto matchHallSpec)

/-- 'hasselaw.ExtendSides', WHERE WHAT IT READS IS OF BULK AT MOST 1048576: true; the input reads as it did. -/
def extendSidesUptoRow : OpenClaim := { program := "ytmfhmpdpebpijaa", sum := "2f9a24e17323cad86971253390f533ddb69b0f0e5234cac16c2296cd6a6b4617", func := "hasse/hasselaw.ExtendSides", spec := "extendSides", apart := false, narrowed := true }
def ExtendSidesUptoSaid : Prop := extendSidesUptoRow.holds Try.pinned (OpenSpec.upto extendSidesSpec)

/-- 'hasselaw.ConceptGanter', WHERE WHAT IT READS IS OF BULK AT MOST 1048576: true; the input reads as it did. -/
def conceptGanterUptoRow : OpenClaim := { program := "ytmfhmpdpebpijaa", sum := "2f9a24e17323cad86971253390f533ddb69b0f0e5234cac16c2296cd6a6b4617", func := "hasse/hasselaw.ConceptGanter", spec := "conceptGanter", unfollowed := true, recurses := true, apart := false, narrowed := true }
def ConceptGanterUptoSaid : Prop := conceptGanterUptoRow.holds Try.pinned (OpenSpec.upto conceptGanterSpec)

/-- 'hasselaw.LevelChains', WHERE WHAT IT READS IS OF BULK AT MOST 1048576: true; the input reads as it did. -/
def levelChainsUptoRow : OpenClaim := { program := "ytmfhmpdpebpijaa", sum := "2f9a24e17323cad86971253390f533ddb69b0f0e5234cac16c2296cd6a6b4617", func := "hasse/hasselaw.LevelChains", spec := "levelChains", apart := false, narrowed := true }
def LevelChainsUptoSaid : Prop := levelChainsUptoRow.holds Try.pinned (OpenSpec.upto levelChainsSpec)

end Rows
end Go.Proofs.Ytmfhmpdpebpijaa
