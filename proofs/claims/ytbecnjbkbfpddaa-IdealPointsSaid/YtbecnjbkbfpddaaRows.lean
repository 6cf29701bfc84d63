/-
  No cell of these rows narrows 'for every input' (looked for: loops, veiled, ifaces, maps, wideKeys, modest, calm, conditions, laid).
  DERIVED. THE GIVEN ROWS OF THIS SEAT. 12 by the template 'for every input the law returns true; each argument reads behind the call as it read before'; 0 by the template 'total and deterministic' (their statements: YtbecnjbkbfpddaaTotals.lean).
  GIVEN WITH THE SEED: the statements are not yours to turn. If you find one false, say at which input.
  Laid BY PROGRAM, IN A SANDBOX (cutbox-rows.mjs): the forced cells as the released guide's own fill.sh prints them over the translation c1534fab6ccc68f5… (all of the seat's roots in one cut). By AI agents, Wed Nov 11 2026. No macro, syntax, notation, axiom, sorry.
-/
import Derived.Test.YtbecnjbkbfpddaaChecked
import GoSem.Claim
import GoSem.ClaimJoined
import GoSem.ClaimMapViews
import Derived.JoinedTies
import Derived.KernelRfl
namespace Go.Proofs.Ytbecnjbkbfpddaa
/- THE CELL 'sum', in the pinned program and in every row, IS THE sha256 OF THE DUMP (.gsa) THAT YtbecnjbkbfpddaaProg.lean LOADS. Nothing in Lean hashes anything: it is a label: what it is worth is what the hold of that sum in a sandbox is worth. -/
noncomputable def Try.pinned : Pinned := { name := "ytbecnjbkbfpddaa", sum := "c1534fab6ccc68f5972a9d246e81c8c339708616b7590189e52159459ae73e4d", checked := Try.checked }
namespace Rows
def none {H : Type} : Left H := { results := [], args := [] }

/-- 'hasselaw.GaloisKeeps': WHATEVER THE INPUT: true; the input reads as it did. -/
def galoisKeepsSpec : ChangeSpec := { name := "galoisKeeps", fn := fun _ => fun
  | [d1, d2, d3] => { results := [.lit (.bool true)], args := [d1, d2, d3] }
  | _ => none }
def galoisKeepsRow : OpenClaim := { program := "ytbecnjbkbfpddaa", sum := "c1534fab6ccc68f5972a9d246e81c8c339708616b7590189e52159459ae73e4d", func := "hasse/hasselaw.GaloisKeeps", spec := "galoisKeeps", unfollowed := true, recurses := true, apart := false }
def GaloisKeepsSaid : Prop := galoisKeepsRow.holds Try.pinned (OpenSpec.ofChange galoisKeepsSpec)

/-- ITS FALSE NEIGHBOUR: 'it returns false'. Refute it at one input. -/
def galoisKeepsWrong : ChangeSpec := { name := "galoisKeeps", fn := fun _ => fun
  | [d1, d2, d3] => { results := [.lit (.bool false)], args := [d1, d2, d3] }
  | _ => none }
def GaloisKeepsWrongFalsely : Prop := galoisKeepsRow.holds Try.pinned (OpenSpec.ofChange galoisKeepsWrong)

/-- 'hasselaw.GaloisBacks': WHATEVER THE INPUT: true; the input reads as it did. -/
def galoisBacksSpec : ChangeSpec := { name := "galoisBacks", fn := fun _ => fun
  | [d1, d2, d3] => { results := [.lit (.bool true)], args := [d1, d2, d3] }
  | _ => none }
def galoisBacksRow : OpenClaim := { program := "ytbecnjbkbfpddaa", sum := "c1534fab6ccc68f5972a9d246e81c8c339708616b7590189e52159459ae73e4d", func := "hasse/hasselaw.GaloisBacks", spec := "galoisBacks", unfollowed := true, recurses := true, apart := false }
def GaloisBacksSaid : Prop := galoisBacksRow.holds Try.pinned (OpenSpec.ofChange galoisBacksSpec)

/-- ITS FALSE NEIGHBOUR: 'it returns false'. Refute it at one input. -/
def galoisBacksWrong : ChangeSpec := { name := "galoisBacks", fn := fun _ => fun
  | [d1, d2, d3] => { results := [.lit (.bool false)], args := [d1, d2, d3] }
  | _ => none }
def GaloisBacksWrongFalsely : Prop := galoisBacksRow.holds Try.pinned (OpenSpec.ofChange galoisBacksWrong)

/-- 'hasselaw.GaloisOre': WHATEVER THE INPUT: true; the input reads as it did. -/
def galoisOreSpec : ChangeSpec := { name := "galoisOre", fn := fun _ => fun
  | [d1, d2, d3] => { results := [.lit (.bool true)], args := [d1, d2, d3] }
  | _ => none }
def galoisOreRow : OpenClaim := { program := "ytbecnjbkbfpddaa", sum := "c1534fab6ccc68f5972a9d246e81c8c339708616b7590189e52159459ae73e4d", func := "hasse/hasselaw.GaloisOre", spec := "galoisOre", unfollowed := true, recurses := true, apart := false }
def GaloisOreSaid : Prop := galoisOreRow.holds Try.pinned (OpenSpec.ofChange galoisOreSpec)

/-- ITS FALSE NEIGHBOUR: 'it returns false'. Refute it at one input. -/
def galoisOreWrong : ChangeSpec := { name := "galoisOre", fn := fun _ => fun
  | [d1, d2, d3] => { results := [.lit (.bool false)], args := [d1, d2, d3] }
  | _ => none }
def GaloisOreWrongFalsely : Prop := galoisOreRow.holds Try.pinned (OpenSpec.ofChange galoisOreWrong)

/-- 'hasselaw.GaloisMeets': WHATEVER THE INPUT: true; the input reads as it did. -/
def galoisMeetsSpec : ChangeSpec := { name := "galoisMeets", fn := fun _ => fun
  | [d1, d2, d3] => { results := [.lit (.bool true)], args := [d1, d2, d3] }
  | _ => none }
def galoisMeetsRow : OpenClaim := { program := "ytbecnjbkbfpddaa", sum := "c1534fab6ccc68f5972a9d246e81c8c339708616b7590189e52159459ae73e4d", func := "hasse/hasselaw.GaloisMeets", spec := "galoisMeets", unfollowed := true, recurses := true, apart := false }
def GaloisMeetsSaid : Prop := galoisMeetsRow.holds Try.pinned (OpenSpec.ofChange galoisMeetsSpec)

/-- ITS FALSE NEIGHBOUR: 'it returns false'. Refute it at one input. -/
def galoisMeetsWrong : ChangeSpec := { name := "galoisMeets", fn := fun _ => fun
  | [d1, d2, d3] => { results := [.lit (.bool false)], args := [d1, d2, d3] }
  | _ => none }
def GaloisMeetsWrongFalsely : Prop := galoisMeetsRow.holds Try.pinned (OpenSpec.ofChange galoisMeetsWrong)

/-- 'hasselaw.GaloisClosed': WHATEVER THE INPUT: true; the input reads as it did. -/
def galoisClosedSpec : ChangeSpec := { name := "galoisClosed", fn := fun _ => fun
  | [d1, d2, d3] => { results := [.lit (.bool true)], args := [d1, d2, d3] }
  | _ => none }
def galoisClosedRow : OpenClaim := { program := "ytbecnjbkbfpddaa", sum := "c1534fab6ccc68f5972a9d246e81c8c339708616b7590189e52159459ae73e4d", func := "hasse/hasselaw.GaloisClosed", spec := "galoisClosed", unfollowed := true, recurses := true, apart := false }
def GaloisClosedSaid : Prop := galoisClosedRow.holds Try.pinned (OpenSpec.ofChange galoisClosedSpec)

/-- ITS FALSE NEIGHBOUR: 'it returns false'. Refute it at one input. -/
def galoisClosedWrong : ChangeSpec := { name := "galoisClosed", fn := fun _ => fun
  | [d1, d2, d3] => { results := [.lit (.bool false)], args := [d1, d2, d3] }
  | _ => none }
def GaloisClosedWrongFalsely : Prop := galoisClosedRow.holds Try.pinned (OpenSpec.ofChange galoisClosedWrong)

/-- 'hasselaw.GaloisCloses': WHATEVER THE INPUT: true; the input reads as it did. -/
def galoisClosesSpec : ChangeSpec := { name := "galoisCloses", fn := fun _ => fun
  | [d1, d2, d3] => { results := [.lit (.bool true)], args := [d1, d2, d3] }
  | _ => none }
def galoisClosesRow : OpenClaim := { program := "ytbecnjbkbfpddaa", sum := "c1534fab6ccc68f5972a9d246e81c8c339708616b7590189e52159459ae73e4d", func := "hasse/hasselaw.GaloisCloses", spec := "galoisCloses", unfollowed := true, recurses := true, apart := false }
def GaloisClosesSaid : Prop := galoisClosesRow.holds Try.pinned (OpenSpec.ofChange galoisClosesSpec)

/-- ITS FALSE NEIGHBOUR: 'it returns false'. Refute it at one input. -/
def galoisClosesWrong : ChangeSpec := { name := "galoisCloses", fn := fun _ => fun
  | [d1, d2, d3] => { results := [.lit (.bool false)], args := [d1, d2, d3] }
  | _ => none }
def GaloisClosesWrongFalsely : Prop := galoisClosesRow.holds Try.pinned (OpenSpec.ofChange galoisClosesWrong)

/-- 'hasselaw.ConceptLattices': WHATEVER THE INPUT: true; the input reads as it did. -/
def conceptLatticesSpec : ChangeSpec := { name := "conceptLattices", fn := fun _ => fun
  | [d] => { results := [.lit (.bool true)], args := [d] }
  | _ => none }
def conceptLatticesRow : OpenClaim := { program := "ytbecnjbkbfpddaa", sum := "c1534fab6ccc68f5972a9d246e81c8c339708616b7590189e52159459ae73e4d", func := "hasse/hasselaw.ConceptLattices", spec := "conceptLattices", unfollowed := true, recurses := true, apart := false }
def ConceptLatticesSaid : Prop := conceptLatticesRow.holds Try.pinned (OpenSpec.ofChange conceptLatticesSpec)

/-- ITS FALSE NEIGHBOUR: 'it returns false'. Refute it at one input. -/
def conceptLatticesWrong : ChangeSpec := { name := "conceptLattices", fn := fun _ => fun
  | [d] => { results := [.lit (.bool false)], args := [d] }
  | _ => none }
def ConceptLatticesWrongFalsely : Prop := conceptLatticesRow.holds Try.pinned (OpenSpec.ofChange conceptLatticesWrong)

/-- 'hasselaw.ConceptBasic': WHATEVER THE INPUT: true; the input reads as it did. -/
def conceptBasicSpec : ChangeSpec := { name := "conceptBasic", fn := fun _ => fun
  | [d] => { results := [.lit (.bool true)], args := [d] }
  | _ => none }
def conceptBasicRow : OpenClaim := { program := "ytbecnjbkbfpddaa", sum := "c1534fab6ccc68f5972a9d246e81c8c339708616b7590189e52159459ae73e4d", func := "hasse/hasselaw.ConceptBasic", spec := "conceptBasic", unfollowed := true, recurses := true, apart := false }
def ConceptBasicSaid : Prop := conceptBasicRow.holds Try.pinned (OpenSpec.ofChange conceptBasicSpec)

/-- ITS FALSE NEIGHBOUR: 'it returns false'. Refute it at one input. -/
def conceptBasicWrong : ChangeSpec := { name := "conceptBasic", fn := fun _ => fun
  | [d] => { results := [.lit (.bool false)], args := [d] }
  | _ => none }
def ConceptBasicWrongFalsely : Prop := conceptBasicRow.holds Try.pinned (OpenSpec.ofChange conceptBasicWrong)

/-- 'hasselaw.IdealLattices': WHATEVER THE INPUT: true; the input reads as it did. -/
def idealLatticesSpec : ChangeSpec := { name := "idealLattices", fn := fun _ => fun
  | [d] => { results := [.lit (.bool true)], args := [d] }
  | _ => none }
def idealLatticesRow : OpenClaim := { program := "ytbecnjbkbfpddaa", sum := "c1534fab6ccc68f5972a9d246e81c8c339708616b7590189e52159459ae73e4d", func := "hasse/hasselaw.IdealLattices", spec := "idealLattices", unfollowed := true, recurses := true, apart := false }
def IdealLatticesSaid : Prop := idealLatticesRow.holds Try.pinned (OpenSpec.ofChange idealLatticesSpec)

/-- ITS FALSE NEIGHBOUR: 'it returns false'. Refute it at one input. -/
def idealLatticesWrong : ChangeSpec := { name := "idealLattices", fn := fun _ => fun
  | [d] => { results := [.lit (.bool false)], args := [d] }
  | _ => none }
def IdealLatticesWrongFalsely : Prop := idealLatticesRow.holds Try.pinned (OpenSpec.ofChange idealLatticesWrong)

/-- 'hasselaw.IdealSets': WHATEVER THE INPUT: true; the input reads as it did. -/
def idealSetsSpec : ChangeSpec := { name := "idealSets", fn := fun _ => fun
  | [d1, d2] => { results := [.lit (.bool true)], args := [d1, d2] }
  | _ => none }
def idealSetsRow : OpenClaim := { program := "ytbecnjbkbfpddaa", sum := "c1534fab6ccc68f5972a9d246e81c8c339708616b7590189e52159459ae73e4d", func := "hasse/hasselaw.IdealSets", spec := "idealSets", unfollowed := true, recurses := true, apart := false }
def IdealSetsSaid : Prop := idealSetsRow.holds Try.pinned (OpenSpec.ofChange idealSetsSpec)

/-- ITS FALSE NEIGHBOUR: 'it returns false'. Refute it at one input. -/
def idealSetsWrong : ChangeSpec := { name := "idealSets", fn := fun _ => fun
  | [d1, d2] => { results := [.lit (.bool false)], args := [d1, d2] }
  | _ => none }
def IdealSetsWrongFalsely : Prop := idealSetsRow.holds Try.pinned (OpenSpec.ofChange idealSetsWrong)

/-- 'hasselaw.IdealIrreducible': WHATEVER THE INPUT: true; the input reads as it did. -/
def idealIrreducibleSpec : ChangeSpec := { name := "idealIrreducible", fn := fun _ => fun
  | [d] => { results := [.lit (.bool true)], args := [d] }
  | _ => none }
def idealIrreducibleRow : OpenClaim := { program := "ytbecnjbkbfpddaa", sum := "c1534fab6ccc68f5972a9d246e81c8c339708616b7590189e52159459ae73e4d", func := "hasse/hasselaw.IdealIrreducible", spec := "idealIrreducible", unfollowed := true, recurses := true, apart := false }
def IdealIrreducibleSaid : Prop := idealIrreducibleRow.holds Try.pinned (OpenSpec.ofChange idealIrreducibleSpec)

/-- ITS FALSE NEIGHBOUR: 'it returns false'. Refute it at one input. -/
def idealIrreducibleWrong : ChangeSpec := { name := "idealIrreducible", fn := fun _ => fun
  | [d] => { results := [.lit (.bool false)], args := [d] }
  | _ => none }
def IdealIrreducibleWrongFalsely : Prop := idealIrreducibleRow.holds Try.pinned (OpenSpec.ofChange idealIrreducibleWrong)

/-- 'hasselaw.IdealPoints': WHATEVER THE INPUT: true; the input reads as it did. -/
def idealPointsSpec : ChangeSpec := { name := "idealPoints", fn := fun _ => fun
  | [d] => { results := [.lit (.bool true)], args := [d] }
  | _ => none }
def idealPointsRow : OpenClaim := { program := "ytbecnjbkbfpddaa", sum := "c1534fab6ccc68f5972a9d246e81c8c339708616b7590189e52159459ae73e4d", func := "hasse/hasselaw.IdealPoints", spec := "idealPoints", unfollowed := true, recurses := true, apart := false }
def IdealPointsSaid : Prop := idealPointsRow.holds Try.pinned (OpenSpec.ofChange idealPointsSpec)

/-- ITS FALSE NEIGHBOUR: 'it returns false'. Refute it at one input. -/
def idealPointsWrong : ChangeSpec := { name := "idealPoints", fn := fun _ => fun
  | [d] => { results := [.lit (.bool false)], args := [d] }
  | _ => none }
def IdealPointsWrongFalsely : Prop := idealPointsRow.holds Try.pinned (OpenSpec.ofChange idealPointsWrong)

/- THE SECOND FORM. 'bulk': how many values and letters a reading holds, each counted each time it is reached (what is shared counts as often as it is met; a slice's spare places count too). A statement '..UptoSaid' is the law's where the arguments, and the package variables that the reading takes, are together of bulk at most 1048576: NARROWER than '..Said'. Prove '..Said' where nothing that the law and all that it calls make is longer than what came in: it says more and counts as full. Else prove '..UptoSaid'. A law counts once. -/
mutual
def uptoBulk {H : Type} : DataW H → Nat
  | .lit (.string bytes) => bytes.length + 1
  | .lit _ => 1
  | .nil => 1
  | .ptr d => uptoBulk d + 1
  | .slice elems spare => uptoBulkAll elems + uptoBulkAll spare + 1
  | .agg parts => uptoBulkAll parts + 1
  | .iface _ d => uptoBulk d + 1
  | .map entries => uptoBulkEntries entries + 1
  | .held _ => 1
def uptoBulkAll {H : Type} : List (DataW H) → Nat
  | [] => 0
  | d :: r => uptoBulk d + uptoBulkAll r
def uptoBulkEntries {H : Type} : List (Lit × DataW H) → Nat
  | [] => 0
  | x :: r => uptoBulkEntry x + uptoBulkEntries r
def uptoBulkEntry {H : Type} : Lit × DataW H → Nat
  | (.string bytes, d) => bytes.length + uptoBulk d + 1
  | (_, d) => uptoBulk d + 1
 end
def uptoSmall : (H : Type) → List (DataW H) → Bool := fun _ ds => decide (uptoBulkAll ds ≤ 1048576)
def OpenSpec.upto (s : _root_.Go.ChangeSpec) : _root_.Go.OpenSpec := { _root_.Go.OpenSpec.ofChange s with cond := some uptoSmall }

/-- 'hasselaw.GaloisKeeps', WHERE WHAT IT READS IS OF BULK AT MOST 1048576: true; the input reads as it did. -/
def galoisKeepsUptoRow : OpenClaim := { program := "ytbecnjbkbfpddaa", sum := "c1534fab6ccc68f5972a9d246e81c8c339708616b7590189e52159459ae73e4d", func := "hasse/hasselaw.GaloisKeeps", spec := "galoisKeeps", unfollowed := true, recurses := true, apart := false, narrowed := true }
def GaloisKeepsUptoSaid : Prop := galoisKeepsUptoRow.holds Try.pinned (OpenSpec.upto galoisKeepsSpec)

/-- 'hasselaw.GaloisBacks', WHERE WHAT IT READS IS OF BULK AT MOST 1048576: true; the input reads as it did. -/
def galoisBacksUptoRow : OpenClaim := { program := "ytbecnjbkbfpddaa", sum := "c1534fab6ccc68f5972a9d246e81c8c339708616b7590189e52159459ae73e4d", func := "hasse/hasselaw.GaloisBacks", spec := "galoisBacks", unfollowed := true, recurses := true, apart := false, narrowed := true }
def GaloisBacksUptoSaid : Prop := galoisBacksUptoRow.holds Try.pinned (OpenSpec.upto galoisBacksSpec)

/-- 'hasselaw.GaloisOre', WHERE WHAT IT READS IS OF BULK AT MOST 1048576: true; the input reads as it did. -/
def galoisOreUptoRow : OpenClaim := { program := "ytbecnjbkbfpddaa", sum := "c1534fab6ccc68f5972a9d246e81c8c339708616b7590189e52159459ae73e4d", func := "hasse/hasselaw.GaloisOre", spec := "galoisOre", unfollowed := true, recurses := true, apart := false, narrowed := true }
def GaloisOreUptoSaid : Prop := galoisOreUptoRow.holds Try.pinned (OpenSpec.upto galoisOreSpec)

/-- 'hasselaw.GaloisMeets', WHERE WHAT IT READS IS OF BULK AT MOST 1048576: true; the input reads as it did. -/
def galoisMeetsUptoRow : OpenClaim := { program := "ytbecnjbkbfpddaa", sum := "c1534fab6ccc68f5972a9d246e81c8c339708616b7590189e52159459ae73e4d", func := "hasse/hasselaw.GaloisMeets", spec := "galoisMeets", unfollowed := true, recurses := true, apart := false, narrowed := true }
def GaloisMeetsUptoSaid : Prop := galoisMeetsUptoRow.holds Try.pinned (OpenSpec.upto galoisMeetsSpec)

/-- 'hasselaw.GaloisClosed', WHERE WHAT IT READS IS OF BULK AT MOST 1048576: true; the input reads as it did. -/
def galoisClosedUptoRow : OpenClaim := { program := "ytbecnjbkbfpddaa", sum := "c1534fab6ccc68f5972a9d246e81c8c339708616b7590189e52159459ae73e4d", func := "hasse/hasselaw.GaloisClosed", spec := "galoisClosed", unfollowed := true, recurses := true, apart := false, narrowed := true }
def GaloisClosedUptoSaid : Prop := galoisClosedUptoRow.holds Try.pinned (OpenSpec.upto galoisClosedSpec)

/-- 'hasselaw.GaloisCloses', WHERE WHAT IT READS IS OF BULK AT MOST 1048576: true; the input reads as it did. -/
def galoisClosesUptoRow : OpenClaim := { program := "ytbecnjbkbfpddaa", sum := "c1534fab6ccc68f5972a9d246e81c8c339708616b7590189e52159459ae73e4d", func := "hasse/hasselaw.GaloisCloses", spec := "galoisCloses", unfollowed := true, recurses := true, apart := false, narrowed := true }
def GaloisClosesUptoSaid : Prop := galoisClosesUptoRow.holds Try.pinned (OpenSpec.upto galoisClosesSpec)

/-- 'hasselaw.ConceptLattices', WHERE WHAT IT READS IS OF BULK AT MOST 1048576: true; the input reads as it did. -/
def conceptLatticesUptoRow : OpenClaim := { program := "ytbecnjbkbfpddaa", sum := "c1534fab6ccc68f5972a9d246e81c8c339708616b7590189e52159459ae73e4d", func := "hasse/hasselaw.ConceptLattices", spec := "conceptLattices", unfollowed := true, recurses := true, apart := false, narrowed := true }
def ConceptLatticesUptoSaid : Prop := conceptLatticesUptoRow.holds Try.pinned (OpenSpec.upto conceptLatticesSpec)

/-- 'hasselaw.ConceptBasic', WHERE WHAT IT READS IS OF BULK AT MOST 1048576: true; the input reads as it did. -/
def conceptBasicUptoRow : OpenClaim := { program := "ytbecnjbkbfpddaa", sum := "c1534fab6ccc68f5972a9d246e81c8c339708616b7590189e52159459ae73e4d", func := "hasse/hasselaw.ConceptBasic", spec := "conceptBasic", unfollowed := true, recurses := true, apart := false, narrowed := true }
def ConceptBasicUptoSaid : Prop := conceptBasicUptoRow.holds Try.pinned (OpenSpec.upto conceptBasicSpec)

/-- 'hasselaw.IdealLattices', WHERE WHAT IT READS IS OF BULK AT MOST 1048576: true; the input reads as it did. -/
def idealLatticesUptoRow : OpenClaim := { program := "ytbecnjbkbfpddaa", sum := "c1534fab6ccc68f5972a9d246e81c8c339708616b7590189e52159459ae73e4d", func := "hasse/hasselaw.IdealLattices", spec := "idealLattices", unfollowed := true, recurses := true, apart := false, narrowed := true }
def IdealLatticesUptoSaid : Prop := idealLatticesUptoRow.holds Try.pinned (OpenSpec.upto idealLatticesSpec)

/-- 'hasselaw.IdealSets', WHERE WHAT IT READS IS OF BULK AT MOST 1048576: true; the input reads as it did. -/
def idealSetsUptoRow : OpenClaim := { program := "ytbecnjbkbfpddaa", sum := "c1534fab6ccc68f5972a9d246e81c8c339708616b7590189e52159459ae73e4d", func := "hasse/hasselaw.IdealSets", spec := "idealSets", unfollowed := true, recurses := true, apart := false, narrowed := true }
def IdealSetsUptoSaid : Prop := idealSetsUptoRow.holds Try.pinned (OpenSpec.upto idealSetsSpec)

/-- 'hasselaw.IdealIrreducible', WHERE WHAT IT READS IS OF BULK AT MOST 1048576: true; the input reads as it did. -/
def idealIrreducibleUptoRow : OpenClaim := { program := "ytbecnjbkbfpddaa", sum := "c1534fab6ccc68f5972a9d246e81c8c339708616b7590189e52159459ae73e4d", func := "hasse/hasselaw.IdealIrreducible", spec := "idealIrreducible", unfollowed := true, recurses := true, apart := false, narrowed := true }
def IdealIrreducibleUptoSaid : Prop := idealIrreducibleUptoRow.holds Try.pinned (OpenSpec.upto idealIrreducibleSpec)

/-- 'hasselaw.IdealPoints', WHERE WHAT IT READS IS OF BULK AT MOST 1048576: true; the input reads as it did. -/
def idealPointsUptoRow : OpenClaim := { program := "ytbecnjbkbfpddaa", sum := "c1534fab6ccc68f5972a9d246e81c8c339708616b7590189e52159459ae73e4d", func := "hasse/hasselaw.IdealPoints", spec := "idealPoints", unfollowed := true, recurses := true, apart := false, narrowed := true }
def IdealPointsUptoSaid : Prop := idealPointsUptoRow.holds Try.pinned (OpenSpec.upto idealPointsSpec)

end Rows
end Go.Proofs.Ytbecnjbkbfpddaa
