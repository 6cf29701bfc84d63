/-
  No cell of these rows narrows 'for every input' (looked for: loops, veiled, ifaces, maps, wideKeys, modest, calm, conditions, laid).
  DERIVED. THE GIVEN ROWS OF THIS SEAT. 12 by the template 'for every input the law returns true; each argument reads behind the call as it read before'; 0 by the template 'total and deterministic' (their statements: YthchhaaplimafaaTotals.lean).
  GIVEN WITH THE SEED: the statements are not yours to turn. If you find one false, say at which input.
  Laid BY PROGRAM, IN A SANDBOX (cutbox-rows.mjs): the forced cells as the released guide's own fill.sh prints them over the translation 1ba9e528a7b5e8df… (all of the seat's roots in one cut). By AI agents, Wed Nov 11 2026. No macro, syntax, notation, axiom, sorry.
-/
import Derived.Test.YthchhaaplimafaaChecked
import GoSem.Claim
import GoSem.ClaimJoined
import GoSem.ClaimMapViews
import Derived.JoinedTies
import Derived.KernelRfl
namespace Go.Proofs.Ythchhaaplimafaa
/- THE CELL 'sum', in the pinned program and in every row, IS THE sha256 OF THE DUMP (.gsa) THAT YthchhaaplimafaaProg.lean LOADS. Nothing in Lean hashes anything: it is a label: what it is worth is what the hold of that sum in a sandbox is worth. -/
noncomputable def Try.pinned : Pinned := { name := "ythchhaaplimafaa", sum := "1ba9e528a7b5e8df26fab8220288c52e6e922efa0ddc57c5b38bcee355d2c820", checked := Try.checked }
namespace Rows
def none {H : Type} : Left H := { results := [], args := [] }

/-- 'hasselaw.ConceptMarks': WHATEVER THE INPUT: true; the input reads as it did. -/
def conceptMarksSpec : ChangeSpec := { name := "conceptMarks", fn := fun _ => fun
  | [d1, d2, d3] => { results := [.lit (.bool true)], args := [d1, d2, d3] }
  | _ => none }
def conceptMarksRow : OpenClaim := { program := "ythchhaaplimafaa", sum := "1ba9e528a7b5e8df26fab8220288c52e6e922efa0ddc57c5b38bcee355d2c820", func := "hasse/hasselaw.ConceptMarks", spec := "conceptMarks", unfollowed := true, recurses := true, apart := false }
def ConceptMarksSaid : Prop := conceptMarksRow.holds Try.pinned (OpenSpec.ofChange conceptMarksSpec)

/-- ITS FALSE NEIGHBOUR: 'it returns false'. Refute it at one input. -/
def conceptMarksWrong : ChangeSpec := { name := "conceptMarks", fn := fun _ => fun
  | [d1, d2, d3] => { results := [.lit (.bool false)], args := [d1, d2, d3] }
  | _ => none }
def ConceptMarksWrongFalsely : Prop := conceptMarksRow.holds Try.pinned (OpenSpec.ofChange conceptMarksWrong)

/-- 'hasselaw.ConceptWille': WHATEVER THE INPUT: true; the input reads as it did. -/
def conceptWilleSpec : ChangeSpec := { name := "conceptWille", fn := fun _ => fun
  | [d1, d2, d3] => { results := [.lit (.bool true)], args := [d1, d2, d3] }
  | _ => none }
def conceptWilleRow : OpenClaim := { program := "ythchhaaplimafaa", sum := "1ba9e528a7b5e8df26fab8220288c52e6e922efa0ddc57c5b38bcee355d2c820", func := "hasse/hasselaw.ConceptWille", spec := "conceptWille", unfollowed := true, recurses := true, apart := false }
def ConceptWilleSaid : Prop := conceptWilleRow.holds Try.pinned (OpenSpec.ofChange conceptWilleSpec)

/-- ITS FALSE NEIGHBOUR: 'it returns false'. Refute it at one input. -/
def conceptWilleWrong : ChangeSpec := { name := "conceptWille", fn := fun _ => fun
  | [d1, d2, d3] => { results := [.lit (.bool false)], args := [d1, d2, d3] }
  | _ => none }
def ConceptWilleWrongFalsely : Prop := conceptWilleRow.holds Try.pinned (OpenSpec.ofChange conceptWilleWrong)

/-- 'hasselaw.ConceptGanter': WHATEVER THE INPUT: true; the input reads as it did. -/
def conceptGanterSpec : ChangeSpec := { name := "conceptGanter", fn := fun _ => fun
  | [d] => { results := [.lit (.bool true)], args := [d] }
  | _ => none }
def conceptGanterRow : OpenClaim := { program := "ythchhaaplimafaa", sum := "1ba9e528a7b5e8df26fab8220288c52e6e922efa0ddc57c5b38bcee355d2c820", func := "hasse/hasselaw.ConceptGanter", spec := "conceptGanter", unfollowed := true, recurses := true, apart := false }
def ConceptGanterSaid : Prop := conceptGanterRow.holds Try.pinned (OpenSpec.ofChange conceptGanterSpec)

/-- ITS FALSE NEIGHBOUR: 'it returns false'. Refute it at one input. -/
def conceptGanterWrong : ChangeSpec := { name := "conceptGanter", fn := fun _ => fun
  | [d] => { results := [.lit (.bool false)], args := [d] }
  | _ => none }
def ConceptGanterWrongFalsely : Prop := conceptGanterRow.holds Try.pinned (OpenSpec.ofChange conceptGanterWrong)

/-- 'hasselaw.ConceptLattices': WHATEVER THE INPUT: true; the input reads as it did. -/
def conceptLatticesSpec : ChangeSpec := { name := "conceptLattices", fn := fun _ => fun
  | [d] => { results := [.lit (.bool true)], args := [d] }
  | _ => none }
def conceptLatticesRow : OpenClaim := { program := "ythchhaaplimafaa", sum := "1ba9e528a7b5e8df26fab8220288c52e6e922efa0ddc57c5b38bcee355d2c820", func := "hasse/hasselaw.ConceptLattices", spec := "conceptLattices", unfollowed := true, recurses := true, apart := false }
def ConceptLatticesSaid : Prop := conceptLatticesRow.holds Try.pinned (OpenSpec.ofChange conceptLatticesSpec)

/-- ITS FALSE NEIGHBOUR: 'it returns false'. Refute it at one input. -/
def conceptLatticesWrong : ChangeSpec := { name := "conceptLattices", fn := fun _ => fun
  | [d] => { results := [.lit (.bool false)], args := [d] }
  | _ => none }
def ConceptLatticesWrongFalsely : Prop := conceptLatticesRow.holds Try.pinned (OpenSpec.ofChange conceptLatticesWrong)

/-- 'hasselaw.MatchChecks': WHATEVER THE INPUT: true; the input reads as it did. -/
def matchChecksSpec : ChangeSpec := { name := "matchChecks", fn := fun _ => fun
  | [d] => { results := [.lit (.bool true)], args := [d] }
  | _ => none }
def matchChecksRow : OpenClaim := { program := "ythchhaaplimafaa", sum := "1ba9e528a7b5e8df26fab8220288c52e6e922efa0ddc57c5b38bcee355d2c820", func := "hasse/hasselaw.MatchChecks", spec := "matchChecks", apart := false }
def MatchChecksSaid : Prop := matchChecksRow.holds Try.pinned (OpenSpec.ofChange matchChecksSpec)

/-- ITS FALSE NEIGHBOUR: 'it returns false'. Refute it at one input. -/
def matchChecksWrong : ChangeSpec := { name := "matchChecks", fn := fun _ => fun
  | [d] => { results := [.lit (.bool false)], args := [d] }
  | _ => none }
def MatchChecksWrongFalsely : Prop := matchChecksRow.holds Try.pinned (OpenSpec.ofChange matchChecksWrong)

/-- 'hasselaw.MatchLacks': WHATEVER THE INPUT: true; the input reads as it did. -/
def matchLacksSpec : ChangeSpec := { name := "matchLacks", fn := fun _ => fun
  | [d] => { results := [.lit (.bool true)], args := [d] }
  | _ => none }
def matchLacksRow : OpenClaim := { program := "ythchhaaplimafaa", sum := "1ba9e528a7b5e8df26fab8220288c52e6e922efa0ddc57c5b38bcee355d2c820", func := "hasse/hasselaw.MatchLacks", spec := "matchLacks", apart := false }
def MatchLacksSaid : Prop := matchLacksRow.holds Try.pinned (OpenSpec.ofChange matchLacksSpec)

/-- ITS FALSE NEIGHBOUR: 'it returns false'. Refute it at one input. -/
def matchLacksWrong : ChangeSpec := { name := "matchLacks", fn := fun _ => fun
  | [d] => { results := [.lit (.bool false)], args := [d] }
  | _ => none }
def MatchLacksWrongFalsely : Prop := matchLacksRow.holds Try.pinned (OpenSpec.ofChange matchLacksWrong)

/-- 'hasselaw.MatchCounts': WHATEVER THE INPUT: true; the input reads as it did. -/
def matchCountsSpec : ChangeSpec := { name := "matchCounts", fn := fun _ => fun
  | [d] => { results := [.lit (.bool true)], args := [d] }
  | _ => none }
def matchCountsRow : OpenClaim := { program := "ythchhaaplimafaa", sum := "1ba9e528a7b5e8df26fab8220288c52e6e922efa0ddc57c5b38bcee355d2c820", func := "hasse/hasselaw.MatchCounts", spec := "matchCounts", recurses := true, apart := false }
def MatchCountsSaid : Prop := matchCountsRow.holds Try.pinned (OpenSpec.ofChange matchCountsSpec)

/-- ITS FALSE NEIGHBOUR: 'it returns false'. Refute it at one input. -/
def matchCountsWrong : ChangeSpec := { name := "matchCounts", fn := fun _ => fun
  | [d] => { results := [.lit (.bool false)], args := [d] }
  | _ => none }
def MatchCountsWrongFalsely : Prop := matchCountsRow.holds Try.pinned (OpenSpec.ofChange matchCountsWrong)

/-- 'hasselaw.LevelChains': WHATEVER THE INPUT: true; the input reads as it did. -/
def levelChainsSpec : ChangeSpec := { name := "levelChains", fn := fun _ => fun
  | [d] => { results := [.lit (.bool true)], args := [d] }
  | _ => none }
def levelChainsRow : OpenClaim := { program := "ythchhaaplimafaa", sum := "1ba9e528a7b5e8df26fab8220288c52e6e922efa0ddc57c5b38bcee355d2c820", func := "hasse/hasselaw.LevelChains", spec := "levelChains", apart := false }
def LevelChainsSaid : Prop := levelChainsRow.holds Try.pinned (OpenSpec.ofChange levelChainsSpec)

/-- ITS FALSE NEIGHBOUR: 'it returns false'. Refute it at one input. -/
def levelChainsWrong : ChangeSpec := { name := "levelChains", fn := fun _ => fun
  | [d] => { results := [.lit (.bool false)], args := [d] }
  | _ => none }
def LevelChainsWrongFalsely : Prop := levelChainsRow.holds Try.pinned (OpenSpec.ofChange levelChainsWrong)

/-- 'hasselaw.LevelLongest': WHATEVER THE INPUT: true; the input reads as it did. -/
def levelLongestSpec : ChangeSpec := { name := "levelLongest", fn := fun _ => fun
  | [d] => { results := [.lit (.bool true)], args := [d] }
  | _ => none }
def levelLongestRow : OpenClaim := { program := "ythchhaaplimafaa", sum := "1ba9e528a7b5e8df26fab8220288c52e6e922efa0ddc57c5b38bcee355d2c820", func := "hasse/hasselaw.LevelLongest", spec := "levelLongest", recurses := true, apart := false }
def LevelLongestSaid : Prop := levelLongestRow.holds Try.pinned (OpenSpec.ofChange levelLongestSpec)

/-- ITS FALSE NEIGHBOUR: 'it returns false'. Refute it at one input. -/
def levelLongestWrong : ChangeSpec := { name := "levelLongest", fn := fun _ => fun
  | [d] => { results := [.lit (.bool false)], args := [d] }
  | _ => none }
def LevelLongestWrongFalsely : Prop := levelLongestRow.holds Try.pinned (OpenSpec.ofChange levelLongestWrong)

/-- 'hasselaw.LevelMirsky': WHATEVER THE INPUT: true; the input reads as it did. -/
def levelMirskySpec : ChangeSpec := { name := "levelMirsky", fn := fun _ => fun
  | [d1, d2] => { results := [.lit (.bool true)], args := [d1, d2] }
  | _ => none }
def levelMirskyRow : OpenClaim := { program := "ythchhaaplimafaa", sum := "1ba9e528a7b5e8df26fab8220288c52e6e922efa0ddc57c5b38bcee355d2c820", func := "hasse/hasselaw.LevelMirsky", spec := "levelMirsky", apart := false }
def LevelMirskySaid : Prop := levelMirskyRow.holds Try.pinned (OpenSpec.ofChange levelMirskySpec)

/-- ITS FALSE NEIGHBOUR: 'it returns false'. Refute it at one input. -/
def levelMirskyWrong : ChangeSpec := { name := "levelMirsky", fn := fun _ => fun
  | [d1, d2] => { results := [.lit (.bool false)], args := [d1, d2] }
  | _ => none }
def LevelMirskyWrongFalsely : Prop := levelMirskyRow.holds Try.pinned (OpenSpec.ofChange levelMirskyWrong)

/-- 'hasselaw.ExtendCounts': WHATEVER THE INPUT: true; the input reads as it did. -/
def extendCountsSpec : ChangeSpec := { name := "extendCounts", fn := fun _ => fun
  | [d] => { results := [.lit (.bool true)], args := [d] }
  | _ => none }
def extendCountsRow : OpenClaim := { program := "ythchhaaplimafaa", sum := "1ba9e528a7b5e8df26fab8220288c52e6e922efa0ddc57c5b38bcee355d2c820", func := "hasse/hasselaw.ExtendCounts", spec := "extendCounts", apart := false }
def ExtendCountsSaid : Prop := extendCountsRow.holds Try.pinned (OpenSpec.ofChange extendCountsSpec)

/-- ITS FALSE NEIGHBOUR: 'it returns false'. Refute it at one input. -/
def extendCountsWrong : ChangeSpec := { name := "extendCounts", fn := fun _ => fun
  | [d] => { results := [.lit (.bool false)], args := [d] }
  | _ => none }
def ExtendCountsWrongFalsely : Prop := extendCountsRow.holds Try.pinned (OpenSpec.ofChange extendCountsWrong)

/-- 'hasselaw.ExtendBoths': WHATEVER THE INPUT: true; the input reads as it did. -/
def extendBothsSpec : ChangeSpec := { name := "extendBoths", fn := fun _ => fun
  | [d1, d2, d3, d4] => { results := [.lit (.bool true)], args := [d1, d2, d3, d4] }
  | _ => none }
def extendBothsRow : OpenClaim := { program := "ythchhaaplimafaa", sum := "1ba9e528a7b5e8df26fab8220288c52e6e922efa0ddc57c5b38bcee355d2c820", func := "hasse/hasselaw.ExtendBoths", spec := "extendBoths", apart := false }
def ExtendBothsSaid : Prop := extendBothsRow.holds Try.pinned (OpenSpec.ofChange extendBothsSpec)

/-- ITS FALSE NEIGHBOUR: 'it returns false'. Refute it at one input. -/
def extendBothsWrong : ChangeSpec := { name := "extendBoths", fn := fun _ => fun
  | [d1, d2, d3, d4] => { results := [.lit (.bool false)], args := [d1, d2, d3, d4] }
  | _ => none }
def ExtendBothsWrongFalsely : Prop := extendBothsRow.holds Try.pinned (OpenSpec.ofChange extendBothsWrong)

/- THE SECOND FORM. 'bulk': how many values and letters a reading holds, each counted each time it is reached (what is shared counts as often as it is met; a slice's spare places count too). A statement '..UptoSaid' is the law's where the arguments, and the package variables that the reading takes, are together of bulk at most 1048576: NARROWER than '..Said'. Prove '..Said' where nothing that the law and all that it calls make is longer than what came in: it says more and counts as full. Else prove '..UptoSaid'. A law counts once. -/
mutual
def uptoBulk {H : Type} : DataW H → Nat
  | .lit (.string bytes) => bytes.length + 1
  | .lit _ => 1
  | .nil => 1
  | .ptr d => uptoBulk d + 1
  | .slice elems spare => uptoBulkAll elems + uptoBulkAll spare + 1
  | .agg parts => uptoBulkAll parts + 1
  | .iface _ d => uptoBulk d + 1
  | .map entries => uptoBulkEntries entries + 1
  | .held _ => 1
def uptoBulkAll {H : Type} : List (DataW H) → Nat
  | [] => 0
  | d :: r => uptoBulk d + uptoBulkAll r
def uptoBulkEntries {H : Type} : List (Lit × DataW H) → Nat
  | [] => 0
  | x :: r => uptoBulkEntry x + uptoBulkEntries r
def uptoBulkEntry {H : Type} : Lit × DataW H → Nat
  | (.string bytes, d) => bytes.length + uptoBulk d + 1
  | (_, d) => uptoBulk d + 1
 end
def uptoSmall : (H : Type) → List (DataW H) → Bool := fun _ ds => decide (uptoBulkAll ds ≤ 1048576)
def OpenSpec.upto (s : _root_.Go.ChangeSpec) : _root_.Go.OpenSpec := { _root_.Go.OpenSpec.ofChange s with cond := some uptoSmall }

/-- 'hasselaw.ConceptMarks', WHERE WHAT IT READS IS OF BULK AT MOST 1048576: true; the input reads as it did. -/
def conceptMarksUptoRow : OpenClaim := { program := "ythchhaaplimafaa", sum := "1ba9e528a7b5e8df26fab8220288c52e6e922efa0ddc57c5b38bcee355d2c820", func := "hasse/hasselaw.ConceptMarks", spec := "conceptMarks", unfollowed := true, recurses := true, apart := false, narrowed := true }
def ConceptMarksUptoSaid : Prop := conceptMarksUptoRow.holds Try.pinned (OpenSpec.upto conceptMarksSpec)

/-- 'hasselaw.ConceptWille', WHERE WHAT IT READS IS OF BULK AT MOST 1048576: true; the input reads as it did. -/
def conceptWilleUptoRow : OpenClaim := { program := "ythchhaaplimafaa", sum := "1ba9e528a7b5e8df26fab8220288c52e6e922efa0ddc57c5b38bcee355d2c820", func := "hasse/hasselaw.ConceptWille", spec := "conceptWille", unfollowed := true, recurses := true, apart := false, narrowed := true }
def ConceptWilleUptoSaid : Prop := conceptWilleUptoRow.holds Try.pinned (OpenSpec.upto conceptWilleSpec)

/-- 'hasselaw.ConceptGanter', WHERE WHAT IT READS IS OF BULK AT MOST 1048576: true; the input reads as it did. -/
def conceptGanterUptoRow : OpenClaim := { program := "ythchhaaplimafaa", sum := "1ba9e528a7b5e8df26fab8220288c52e6e922efa0ddc57c5b38bcee355d2c820", func := "hasse/hasselaw.ConceptGanter", spec := "conceptGanter", unfollowed := true, recurses := true, apart := false, narrowed := true }
def ConceptGanterUptoSaid : Prop := conceptGanterUptoRow.holds Try.pinned (OpenSpec.upto conceptGanterSpec)

/-- 'hasselaw.ConceptLattices', WHERE WHAT IT READS IS OF BULK AT MOST 1048576: true; the input reads as it did. -/
def conceptLatticesUptoRow : OpenClaim := { program := "ythchhaaplimafaa", sum := "1ba9e528a7b5e8df26fab8220288c52e6e922efa0ddc57c5b38bcee355d2c820", func := "hasse/hasselaw.ConceptLattices", spec := "conceptLattices", unfollowed := true, recurses := true, apart := false, narrowed := true }
def ConceptLatticesUptoSaid : Prop := conceptLatticesUptoRow.holds Try.pinned (OpenSpec.upto conceptLatticesSpec)

/-- 'hasselaw.MatchChecks', WHERE WHAT IT READS IS OF BULK AT MOST 1048576: true; the input reads as it did. -/
def matchChecksUptoRow : OpenClaim := { program := "ythchhaaplimafaa", sum := "1ba9e528a7b5e8df26fab8220288c52e6e922efa0ddc57c5b38bcee355d2c820", func := "hasse/hasselaw.MatchChecks", spec := "matchChecks", apart := false, narrowed := true }
def MatchChecksUptoSaid : Prop := matchChecksUptoRow.holds Try.pinned (OpenSpec.upto matchChecksSpec)

/-- 'hasselaw.MatchLacks', WHERE WHAT IT READS IS OF BULK AT MOST 1048576: true; the input reads as it did. -/
def matchLacksUptoRow : OpenClaim := { program := "ythchhaaplimafaa", sum := "1ba9e528a7b5e8df26fab8220288c52e6e922efa0ddc57c5b38bcee355d2c820", func := "hasse/hasselaw.MatchLacks", spec := "matchLacks", apart := false, narrowed := true }
def MatchLacksUptoSaid : Prop := matchLacksUptoRow.holds Try.pinned (OpenSpec.upto matchLacksSpec)

/-- 'hasselaw.MatchCounts', WHERE WHAT IT READS IS OF BULK AT MOST 1048576: true; the input reads as it did. -/
def matchCountsUptoRow : OpenClaim := { program := "ythchhaaplimafaa", sum := "1ba9e528a7b5e8df26fab8220288c52e6e922efa0ddc57c5b38bcee355d2c820", func := "hasse/hasselaw.MatchCounts", spec := "matchCounts", recurses := true, apart := false, narrowed := true }
def MatchCountsUptoSaid : Prop := matchCountsUptoRow.holds Try.pinned (OpenSpec.upto matchCountsSpec)

/-- 'hasselaw.LevelChains', WHERE WHAT IT READS IS OF BULK AT MOST 1048576: true; the input reads as it did. -/
def levelChainsUptoRow : OpenClaim := { program := "ythchhaaplimafaa", sum := "1ba9e528a7b5e8df26fab8220288c52e6e922efa0ddc57c5b38bcee355d2c820", func := "hasse/hasselaw.LevelChains", spec := "levelChains", apart := false, narrowed := true }
def LevelChainsUptoSaid : Prop := levelChainsUptoRow.holds Try.pinned (OpenSpec.upto levelChainsSpec)

/-- 'hasselaw.LevelLongest', WHERE WHAT IT READS IS OF BULK AT MOST 1048576: true; the input reads as it did. -/
def levelLongestUptoRow : OpenClaim := { program := "ythchhaaplimafaa", sum := "1ba9e528a7b5e8df26fab8220288c52e6e922efa0ddc57c5b38bcee355d2c820", func := "hasse/hasselaw.LevelLongest", spec := "levelLongest", recurses := true, apart := false, narrowed := true }
def LevelLongestUptoSaid : Prop := levelLongestUptoRow.holds Try.pinned (OpenSpec.upto levelLongestSpec)

/-- 'hasselaw.LevelMirsky', WHERE WHAT IT READS IS OF BULK AT MOST 1048576: true; the input reads as it did. -/
def levelMirskyUptoRow : OpenClaim := { program := "ythchhaaplimafaa", sum := "1ba9e528a7b5e8df26fab8220288c52e6e922efa0ddc57c5b38bcee355d2c820", func := "hasse/hasselaw.LevelMirsky", spec := "levelMirsky", apart := false, narrowed := true }
def LevelMirskyUptoSaid : Prop := levelMirskyUptoRow.holds Try.pinned (OpenSpec.upto levelMirskySpec)

/-- 'hasselaw.ExtendCounts', WHERE WHAT IT READS IS OF BULK AT MOST 1048576: true; the input reads as it did. -/
def extendCountsUptoRow : OpenClaim := { program := "ythchhaaplimafaa", sum := "1ba9e528a7b5e8df26fab8220288c52e6e922efa0ddc57c5b38bcee355d2c820", func := "hasse/hasselaw.ExtendCounts", spec := "extendCounts", apart := false, narrowed := true }
def ExtendCountsUptoSaid : Prop := extendCountsUptoRow.holds Try.pinned (OpenSpec.upto extendCountsSpec)

/-- 'hasselaw.ExtendBoths', WHERE WHAT IT READS IS OF BULK AT MOST 1048576: true; the input reads as it did. -/
def extendBothsUptoRow : OpenClaim := { program := "ythchhaaplimafaa", sum := "1ba9e528a7b5e8df26fab8220288c52e6e922efa0ddc57c5b38bcee355d2c820", func := "hasse/hasselaw.ExtendBoths", spec := "extendBoths", apart := false, narrowed := true }
def ExtendBothsUptoSaid : Prop := extendBothsUptoRow.holds Try.pinned (OpenSpec.upto extendBothsSpec)

end Rows
end Go.Proofs.Ythchhaaplimafaa
