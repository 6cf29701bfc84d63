/-
  No cell of these rows narrows 'for every input' (looked for: loops, veiled, ifaces, maps, wideKeys, modest, calm, conditions, laid).
  DERIVED. THE GIVEN ROWS OF THIS SEAT. 10 by the template 'for every input the law returns true; each argument reads behind the call as it read before'; 0 by the template 'total and deterministic' (their statements: YtipkcabpfhmngaaTotals.lean).
  GIVEN WITH THE SEED: the statements are not yours to turn. If you find one false, say at which input.
  Laid BY PROGRAM, IN A SANDBOX (cutbox-rows.mjs): the forced cells as the released guide's own fill.sh prints them over the translation 7585cba1ff6213d9… (all of the seat's roots in one cut). By AI agents, Wed Nov 11 2026. No macro, syntax, notation, axiom, sorry.
-/
import Derived.Test.YtipkcabpfhmngaaChecked
import GoSem.Claim
import GoSem.ClaimJoined
import GoSem.ClaimMapViews
import Derived.JoinedTies
import Derived.KernelRfl
namespace Go.Proofs.Ytipkcabpfhmngaa
/- THE CELL 'sum', in the pinned program and in every row, IS THE sha256 OF THE DUMP (.gsa) THAT YtipkcabpfhmngaaProg.lean LOADS. Nothing in Lean hashes anything: it is a label: what it is worth is what the hold of that sum in a sandbox is worth. -/
noncomputable def Try.pinned : Pinned := { name := "ytipkcabpfhmngaa", sum := "7585cba1ff6213d9682fea4471d0f0077e23155a73bd06c1cc4cc80258a48728", checked := Try.checked }
namespace Rows
def none {H : Type} : Left H := { results := [], args := [] }

/-- 'hasselaw.ExtendAheads': WHATEVER THE INPUT: true; the input reads as it did. -/
def extendAheadsSpec : ChangeSpec := { name := "extendAheads", fn := fun _ => fun
  | [d1, d2, d3] => { results := [.lit (.bool true)], args := [d1, d2, d3] }
  | _ => none }
def extendAheadsRow : OpenClaim := { program := "ytipkcabpfhmngaa", sum := "7585cba1ff6213d9682fea4471d0f0077e23155a73bd06c1cc4cc80258a48728", func := "hasse/hasselaw.ExtendAheads", spec := "extendAheads", apart := false }
def ExtendAheadsSaid : Prop := extendAheadsRow.holds Try.pinned (OpenSpec.ofChange extendAheadsSpec)

/-- ITS FALSE NEIGHBOUR: 'it returns false'. Refute it at one input. -/
def extendAheadsWrong : ChangeSpec := { name := "extendAheads", fn := fun _ => fun
  | [d1, d2, d3] => { results := [.lit (.bool false)], args := [d1, d2, d3] }
  | _ => none }
def ExtendAheadsWrongFalsely : Prop := extendAheadsRow.holds Try.pinned (OpenSpec.ofChange extendAheadsWrong)

/-- 'hasselaw.ExtendNths': WHATEVER THE INPUT: true; the input reads as it did. -/
def extendNthsSpec : ChangeSpec := { name := "extendNths", fn := fun _ => fun
  | [d1, d2] => { results := [.lit (.bool true)], args := [d1, d2] }
  | _ => none }
def extendNthsRow : OpenClaim := { program := "ytipkcabpfhmngaa", sum := "7585cba1ff6213d9682fea4471d0f0077e23155a73bd06c1cc4cc80258a48728", func := "hasse/hasselaw.ExtendNths", spec := "extendNths", apart := false }
def ExtendNthsSaid : Prop := extendNthsRow.holds Try.pinned (OpenSpec.ofChange extendNthsSpec)

/-- ITS FALSE NEIGHBOUR: 'it returns false'. Refute it at one input. -/
def extendNthsWrong : ChangeSpec := { name := "extendNths", fn := fun _ => fun
  | [d1, d2] => { results := [.lit (.bool false)], args := [d1, d2] }
  | _ => none }
def ExtendNthsWrongFalsely : Prop := extendNthsRow.holds Try.pinned (OpenSpec.ofChange extendNthsWrong)

/-- 'hasselaw.ExtendRanks': WHATEVER THE INPUT: true; the input reads as it did. -/
def extendRanksSpec : ChangeSpec := { name := "extendRanks", fn := fun _ => fun
  | [d1, d2] => { results := [.lit (.bool true)], args := [d1, d2] }
  | _ => none }
def extendRanksRow : OpenClaim := { program := "ytipkcabpfhmngaa", sum := "7585cba1ff6213d9682fea4471d0f0077e23155a73bd06c1cc4cc80258a48728", func := "hasse/hasselaw.ExtendRanks", spec := "extendRanks", apart := false }
def ExtendRanksSaid : Prop := extendRanksRow.holds Try.pinned (OpenSpec.ofChange extendRanksSpec)

/-- ITS FALSE NEIGHBOUR: 'it returns false'. Refute it at one input. -/
def extendRanksWrong : ChangeSpec := { name := "extendRanks", fn := fun _ => fun
  | [d1, d2] => { results := [.lit (.bool false)], args := [d1, d2] }
  | _ => none }
def ExtendRanksWrongFalsely : Prop := extendRanksRow.holds Try.pinned (OpenSpec.ofChange extendRanksWrong)

/-- 'hasselaw.ExtendTurns': WHATEVER THE INPUT: true; the input reads as it did. -/
def extendTurnsSpec : ChangeSpec := { name := "extendTurns", fn := fun _ => fun
  | [d1, d2] => { results := [.lit (.bool true)], args := [d1, d2] }
  | _ => none }
def extendTurnsRow : OpenClaim := { program := "ytipkcabpfhmngaa", sum := "7585cba1ff6213d9682fea4471d0f0077e23155a73bd06c1cc4cc80258a48728", func := "hasse/hasselaw.ExtendTurns", spec := "extendTurns", apart := false }
def ExtendTurnsSaid : Prop := extendTurnsRow.holds Try.pinned (OpenSpec.ofChange extendTurnsSpec)

/-- ITS FALSE NEIGHBOUR: 'it returns false'. Refute it at one input. -/
def extendTurnsWrong : ChangeSpec := { name := "extendTurns", fn := fun _ => fun
  | [d1, d2] => { results := [.lit (.bool false)], args := [d1, d2] }
  | _ => none }
def ExtendTurnsWrongFalsely : Prop := extendTurnsRow.holds Try.pinned (OpenSpec.ofChange extendTurnsWrong)

/-- 'hasselaw.ExtendSides': WHATEVER THE INPUT: true; the input reads as it did. -/
def extendSidesSpec : ChangeSpec := { name := "extendSides", fn := fun _ => fun
  | [d1, d2] => { results := [.lit (.bool true)], args := [d1, d2] }
  | _ => none }
def extendSidesRow : OpenClaim := { program := "ytipkcabpfhmngaa", sum := "7585cba1ff6213d9682fea4471d0f0077e23155a73bd06c1cc4cc80258a48728", func := "hasse/hasselaw.ExtendSides", spec := "extendSides", apart := false }
def ExtendSidesSaid : Prop := extendSidesRow.holds Try.pinned (OpenSpec.ofChange extendSidesSpec)

/-- ITS FALSE NEIGHBOUR: 'it returns false'. Refute it at one input. -/
def extendSidesWrong : ChangeSpec := { name := "extendSides", fn := fun _ => fun
  | [d1, d2] => { results := [.lit (.bool false)], args := [d1, d2] }
  | _ => none }
def ExtendSidesWrongFalsely : Prop := extendSidesRow.holds Try.pinned (OpenSpec.ofChange extendSidesWrong)

/-- 'hasselaw.ExtendShepp': WHATEVER THE INPUT: true; the input reads as it did. -/
def extendSheppSpec : ChangeSpec := { name := "extendShepp", fn := fun _ => fun
  | [d1, d2, d3, d4] => { results := [.lit (.bool true)], args := [d1, d2, d3, d4] }
  | _ => none }
def extendSheppRow : OpenClaim := { program := "ytipkcabpfhmngaa", sum := "7585cba1ff6213d9682fea4471d0f0077e23155a73bd06c1cc4cc80258a48728", func := "hasse/hasselaw.ExtendShepp", spec := "extendShepp", apart := false }
def ExtendSheppSaid : Prop := extendSheppRow.holds Try.pinned (OpenSpec.ofChange extendSheppSpec)

/-- ITS FALSE NEIGHBOUR: 'it returns false'. Refute it at one input. -/
def extendSheppWrong : ChangeSpec := { name := "extendShepp", fn := fun _ => fun
  | [d1, d2, d3, d4] => { results := [.lit (.bool false)], args := [d1, d2, d3, d4] }
  | _ => none }
def ExtendSheppWrongFalsely : Prop := extendSheppRow.holds Try.pinned (OpenSpec.ofChange extendSheppWrong)

/-- 'hasselaw.MatchHall': WHATEVER THE INPUT: true; the input reads as it did. -/
def matchHallSpec : ChangeSpec := { name := "matchHall", fn := fun _ => fun
  | [d1, d2] => { results := [.lit (.bool true)], args := [d1, d2] }
  | _ => none }
def matchHallRow : OpenClaim := { program := "ytipkcabpfhmngaa", sum := "7585cba1ff6213d9682fea4471d0f0077e23155a73bd06c1cc4cc80258a48728", func := "hasse/hasselaw.MatchHall", spec := "matchHall", recurses := true, apart := false }
def MatchHallSaid : Prop := matchHallRow.holds Try.pinned (OpenSpec.ofChange matchHallSpec)

/-- ITS FALSE NEIGHBOUR: 'it returns false'. Refute it at one input. -/
def matchHallWrong : ChangeSpec := { name := "matchHall", fn := fun _ => fun
  | [d1, d2] => { results := [.lit (.bool false)], args := [d1, d2] }
  | _ => none }
def MatchHallWrongFalsely : Prop := matchHallRow.holds Try.pinned (OpenSpec.ofChange matchHallWrong)

/-- 'hasselaw.MatchBest': WHATEVER THE INPUT: true; the input reads as it did. -/
def matchBestSpec : ChangeSpec := { name := "matchBest", fn := fun _ => fun
  | [d] => { results := [.lit (.bool true)], args := [d] }
  | _ => none }
def matchBestRow : OpenClaim := { program := "ytipkcabpfhmngaa", sum := "7585cba1ff6213d9682fea4471d0f0077e23155a73bd06c1cc4cc80258a48728", func := "hasse/hasselaw.MatchBest", spec := "matchBest", recurses := true, apart := false }
def MatchBestSaid : Prop := matchBestRow.holds Try.pinned (OpenSpec.ofChange matchBestSpec)

/-- ITS FALSE NEIGHBOUR: 'it returns false'. Refute it at one input. -/
def matchBestWrong : ChangeSpec := { name := "matchBest", fn := fun _ => fun
  | [d] => { results := [.lit (.bool false)], args := [d] }
  | _ => none }
def MatchBestWrongFalsely : Prop := matchBestRow.holds Try.pinned (OpenSpec.ofChange matchBestWrong)

/-- 'hasselaw.PromotePromotes': WHATEVER THE INPUT: true; the input reads as it did. -/
def promotePromotesSpec : ChangeSpec := { name := "promotePromotes", fn := fun _ => fun
  | [d1, d2] => { results := [.lit (.bool true)], args := [d1, d2] }
  | _ => none }
def promotePromotesRow : OpenClaim := { program := "ytipkcabpfhmngaa", sum := "7585cba1ff6213d9682fea4471d0f0077e23155a73bd06c1cc4cc80258a48728", func := "hasse/hasselaw.PromotePromotes", spec := "promotePromotes", apart := false }
def PromotePromotesSaid : Prop := promotePromotesRow.holds Try.pinned (OpenSpec.ofChange promotePromotesSpec)

/-- ITS FALSE NEIGHBOUR: 'it returns false'. Refute it at one input. -/
def promotePromotesWrong : ChangeSpec := { name := "promotePromotes", fn := fun _ => fun
  | [d1, d2] => { results := [.lit (.bool false)], args := [d1, d2] }
  | _ => none }
def PromotePromotesWrongFalsely : Prop := promotePromotesRow.holds Try.pinned (OpenSpec.ofChange promotePromotesWrong)

/-- 'hasselaw.PromoteOrbits': WHATEVER THE INPUT: true; the input reads as it did. -/
def promoteOrbitsSpec : ChangeSpec := { name := "promoteOrbits", fn := fun _ => fun
  | [d1, d2] => { results := [.lit (.bool true)], args := [d1, d2] }
  | _ => none }
def promoteOrbitsRow : OpenClaim := { program := "ytipkcabpfhmngaa", sum := "7585cba1ff6213d9682fea4471d0f0077e23155a73bd06c1cc4cc80258a48728", func := "hasse/hasselaw.PromoteOrbits", spec := "promoteOrbits", apart := false }
def PromoteOrbitsSaid : Prop := promoteOrbitsRow.holds Try.pinned (OpenSpec.ofChange promoteOrbitsSpec)

/-- ITS FALSE NEIGHBOUR: 'it returns false'. Refute it at one input. -/
def promoteOrbitsWrong : ChangeSpec := { name := "promoteOrbits", fn := fun _ => fun
  | [d1, d2] => { results := [.lit (.bool false)], args := [d1, d2] }
  | _ => none }
def PromoteOrbitsWrongFalsely : Prop := promoteOrbitsRow.holds Try.pinned (OpenSpec.ofChange promoteOrbitsWrong)

/- THE SECOND FORM. 'bulk': how many values and letters a reading holds, each counted each time it is reached (what is shared counts as often as it is met; a slice's spare places count too). A statement '..UptoSaid' is the law's where the arguments, and the package variables that the reading takes, are together of bulk at most 1048576: NARROWER than '..Said'. Prove '..Said' where nothing that the law and all that it calls make is longer than what came in: it says more and counts as full. Else prove '..UptoSaid'. A law counts once. -/
mutual
def uptoBulk {H : Type} : DataW H → Nat
  | .lit (.string bytes) => bytes.length + 1
  | .lit _ => 1
  | .nil => 1
  | .ptr d => uptoBulk d + 1
  | .slice elems spare => uptoBulkAll elems + uptoBulkAll spare + 1
  | .agg parts => uptoBulkAll parts + 1
  | .iface _ d => uptoBulk d + 1
  | .map entries => uptoBulkEntries entries + 1
  | .held _ => 1
def uptoBulkAll {H : Type} : List (DataW H) → Nat
  | [] => 0
  | d :: r => uptoBulk d + uptoBulkAll r
def uptoBulkEntries {H : Type} : List (Lit × DataW H) → Nat
  | [] => 0
  | x :: r => uptoBulkEntry x + uptoBulkEntries r
def uptoBulkEntry {H : Type} : Lit × DataW H → Nat
  | (.string bytes, d) => bytes.length + uptoBulk d + 1
  | (_, d) => uptoBulk d + 1
 end
def uptoSmall : (H : Type) → List (DataW H) → Bool := fun _ ds => decide (uptoBulkAll ds ≤ 1048576)
def OpenSpec.upto (s : _root_.Go.ChangeSpec) : _root_.Go.OpenSpec := { _root_.Go.OpenSpec.ofChange s with cond := some uptoSmall }

/-- 'hasselaw.ExtendAheads', WHERE WHAT IT READS IS OF BULK AT MOST 1048576: true; the input reads as it did. -/
def extendAheadsUptoRow : OpenClaim := { program := "ytipkcabpfhmngaa", sum := "7585cba1ff6213d9682fea4471d0f0077e23155a73bd06c1cc4cc80258a48728", func := "hasse/hasselaw.ExtendAheads", spec := "extendAheads", apart := false, narrowed := true }
def ExtendAheadsUptoSaid : Prop := extendAheadsUptoRow.holds Try.pinned (OpenSpec.upto extendAheadsSpec)

/-- 'hasselaw.ExtendNths', WHERE WHAT IT READS IS OF BULK AT MOST 1048576: true; the input reads as it did. -/
def extendNthsUptoRow : OpenClaim := { program := "ytipkcabpfhmngaa", sum := "7585cba1ff6213d9682fea4471d0f0077e23155a73bd06c1cc4cc80258a48728", func := "hasse/hasselaw.ExtendNths", spec := "extendNths", apart := false, narrowed := true }
def ExtendNthsUptoSaid : Prop := extendNthsUptoRow.holds Try.pinned (OpenSpec.upto extendNthsSpec)

/-- 'hasselaw.ExtendRanks', WHERE WHAT IT READS IS OF BULK AT MOST 1048576: true; the input reads as it did. -/
def extendRanksUptoRow : OpenClaim := { program := "ytipkcabpfhmngaa", sum := "7585cba1ff6213d9682fea4471d0f0077e23155a73bd06c1cc4cc80258a48728", func := "hasse/hasselaw.ExtendRanks", spec := "extendRanks", apart := false, narrowed := true }
def ExtendRanksUptoSaid : Prop := extendRanksUptoRow.holds Try.pinned (OpenSpec.upto extendRanksSpec)

/-- 'hasselaw.ExtendTurns', WHERE WHAT IT READS IS OF BULK AT MOST 1048576: true; the input reads as it did. -/
def extendTurnsUptoRow : OpenClaim := { program := "ytipkcabpfhmngaa", sum := "7585cba1ff6213d9682fea4471d0f0077e23155a73bd06c1cc4cc80258a48728", func := "hasse/hasselaw.ExtendTurns", spec := "extendTurns", apart := false, narrowed := true }
def ExtendTurnsUptoSaid : Prop := extendTurnsUptoRow.holds Try.pinned (OpenSpec.upto extendTurnsSpec)

/-- 'hasselaw.ExtendSides', WHERE WHAT IT READS IS OF BULK AT MOST 1048576: true; the input reads as it did. -/
def extendSidesUptoRow : OpenClaim := { program := "ytipkcabpfhmngaa", sum := "7585cba1ff6213d9682fea4471d0f0077e23155a73bd06c1cc4cc80258a48728", func := "hasse/hasselaw.ExtendSides", spec := "extendSides", apart := false, narrowed := true }
def ExtendSidesUptoSaid : Prop := extendSidesUptoRow.holds Try.pinned (OpenSpec.upto extendSidesSpec)

/-- 'hasselaw.ExtendShepp', WHERE WHAT IT READS IS OF BULK AT MOST 1048576: true; the input reads as it did. -/
def extendSheppUptoRow : OpenClaim := { program := "ytipkcabpfhmngaa", sum := "7585cba1ff6213d9682fea4471d0f0077e23155a73bd06c1cc4cc80258a48728", func := "hasse/hasselaw.ExtendShepp", spec := "extendShepp", apart := false, narrowed := true }
def ExtendSheppUptoSaid : Prop := extendSheppUptoRow.holds Try.pinned (OpenSpec.upto extendSheppSpec)

/-- 'hasselaw.MatchHall', WHERE WHAT IT READS IS OF BULK AT MOST 1048576: true; the input reads as it did. -/
def matchHallUptoRow : OpenClaim := { program := "ytipkcabpfhmngaa", sum := "7585cba1ff6213d9682fea4471d0f0077e23155a73bd06c1cc4cc80258a48728", func := "hasse/hasselaw.MatchHall", spec := "matchHall", recurses := true, apart := false, narrowed := true }
def MatchHallUptoSaid : Prop := matchHallUptoRow.holds Try.pinned (OpenSpec.upto matchHallSpec)

/-- 'hasselaw.MatchBest', WHERE WHAT IT READS IS OF BULK AT MOST 1048576: true; the input reads as it did. -/
def matchBestUptoRow : OpenClaim := { program := "ytipkcabpfhmngaa", sum := "7585cba1ff6213d9682fea4471d0f0077e23155a73bd06c1cc4cc80258a48728", func := "hasse/hasselaw.MatchBest", spec := "matchBest", recurses := true, apart := false, narrowed := true }
def MatchBestUptoSaid : Prop := matchBestUptoRow.holds Try.pinned (OpenSpec.upto matchBestSpec)

/-- 'hasselaw.PromotePromotes', WHERE WHAT IT READS IS OF BULK AT MOST 1048576: true; the input reads as it did. -/
def promotePromotesUptoRow : OpenClaim := { program := "ytipkcabpfhmngaa", sum := "7585cba1ff6213d9682fea4471d0f0077e23155a73bd06c1cc4cc80258a48728", func := "hasse/hasselaw.PromotePromotes", spec := "promotePromotes", apart := false, narrowed := true }
def PromotePromotesUptoSaid : Prop := promotePromotesUptoRow.holds Try.pinned (OpenSpec.upto promotePromotesSpec)

/-- 'hasselaw.PromoteOrbits', WHERE WHAT IT READS IS OF BULK AT MOST 1048576: true; the input reads as it did. -/
def promoteOrbitsUptoRow : OpenClaim := { program := "ytipkcabpfhmngaa", sum := "7585cba1ff6213d9682fea4471d0f0077e23155a73bd06c1cc4cc80258a48728", func := "hasse/hasselaw.PromoteOrbits", spec := "promoteOrbits", apart := false, narrowed := true }
def PromoteOrbitsUptoSaid : Prop := promoteOrbitsUptoRow.holds Try.pinned (OpenSpec.upto promoteOrbitsSpec)

end Rows
end Go.Proofs.Ytipkcabpfhmngaa
