/-
  NARROWER THAN 'FOR EVERY INPUT', by the rows' own cells (each row's printed sentence says how): PolyOnto: laid · PolyValues: laid · PolyStrict: laid · PolyZeta: laid · PolyCounts: laid · PolyStanley: laid · PolyLists: laid · PolyHall: laid · PolyRows: laid · MoebiusUndo: laid · MoebiusInverts: laid · MoebiusHall: laid.
  DERIVED. THE GIVEN ROWS OF THIS SEAT. 12 by the template 'for every input the law returns true; each argument reads behind the call as it read before'; 0 by the template 'total and deterministic' (their statements: YtkackilhfkicoaaDoorTotals.lean).
  GIVEN WITH THE SEED: the statements are not yours to turn. If you find one false, say at which input.
  Laid BY PROGRAM, IN A SANDBOX (cutbox-rows.mjs): the forced cells as the released guide's own fill.sh prints them over the translation aedbff6d18a6d079… (all of the seat's roots in one cut). By AI agents, Wed Nov 11 2026. No macro, syntax, notation, axiom, sorry.
-/
import Derived.Test.YtkackilhfkicoaaDoorChecked
import GoSem.Claim
import GoSem.ClaimJoined
import GoSem.ClaimMapViews
import Derived.JoinedTies
import Derived.KernelRfl
namespace Go.Proofs.YtkackilhfkicoaaDoor
/- THE CELL 'sum', in the pinned program and in every row, IS THE sha256 OF THE DUMP (.gsa) THAT YtkackilhfkicoaaDoorProg.lean LOADS. Nothing in Lean hashes anything: it is a label: what it is worth is what the hold of that sum in a sandbox is worth. -/
noncomputable def Tryd.pinned : Pinned := { name := "ytkackilhfkicoaadoor", sum := "aedbff6d18a6d079edecbfd727573e2b8baeefc3c808dbd655ad4b2992f9098e", checked := Tryd.checked }
namespace Rows
def none {H : Type} : Left H := { results := [], args := [] }

/- WHAT THE LISTED PACKAGE-LEVEL VARIABLES READ AS WHEN THE CALL BEGINS. Each datum BY PROGRAM (the guide's laid-datum.mjs) off the statement by which the dump's own 'gosem.cut.vars' lays the variable. In a bare row this is a premise. The card (YtkackilhfkicoaaDoorCards.lean) ties it to the program's text. -/
def laid_math_bits_deBruijn32tab {H : Type} : DataW H := .agg [.lit (.int .u8 0), .lit (.int .u8 1), .lit (.int .u8 28), .lit (.int .u8 2), .lit (.int .u8 29), .lit (.int .u8 14), .lit (.int .u8 24), .lit (.int .u8 3), .lit (.int .u8 30), .lit (.int .u8 22), .lit (.int .u8 20), .lit (.int .u8 15), .lit (.int .u8 25), .lit (.int .u8 17), .lit (.int .u8 4), .lit (.int .u8 8), .lit (.int .u8 31), .lit (.int .u8 27), .lit (.int .u8 13), .lit (.int .u8 23), .lit (.int .u8 21), .lit (.int .u8 19), .lit (.int .u8 16), .lit (.int .u8 7), .lit (.int .u8 26), .lit (.int .u8 12), .lit (.int .u8 18), .lit (.int .u8 6), .lit (.int .u8 11), .lit (.int .u8 5), .lit (.int .u8 10), .lit (.int .u8 9)]
def laid_math_bits_deBruijn64tab {H : Type} : DataW H := .agg [.lit (.int .u8 0), .lit (.int .u8 1), .lit (.int .u8 56), .lit (.int .u8 2), .lit (.int .u8 57), .lit (.int .u8 49), .lit (.int .u8 28), .lit (.int .u8 3), .lit (.int .u8 61), .lit (.int .u8 58), .lit (.int .u8 42), .lit (.int .u8 50), .lit (.int .u8 38), .lit (.int .u8 29), .lit (.int .u8 17), .lit (.int .u8 4), .lit (.int .u8 62), .lit (.int .u8 47), .lit (.int .u8 59), .lit (.int .u8 36), .lit (.int .u8 45), .lit (.int .u8 43), .lit (.int .u8 51), .lit (.int .u8 22), .lit (.int .u8 53), .lit (.int .u8 39), .lit (.int .u8 33), .lit (.int .u8 30), .lit (.int .u8 24), .lit (.int .u8 18), .lit (.int .u8 12), .lit (.int .u8 5), .lit (.int .u8 63), .lit (.int .u8 55), .lit (.int .u8 48), .lit (.int .u8 27), .lit (.int .u8 60), .lit (.int .u8 41), .lit (.int .u8 37), .lit (.int .u8 16), .lit (.int .u8 46), .lit (.int .u8 35), .lit (.int .u8 44), .lit (.int .u8 21), .lit (.int .u8 52), .lit (.int .u8 32), .lit (.int .u8 23), .lit (.int .u8 11), .lit (.int .u8 54), .lit (.int .u8 26), .lit (.int .u8 40), .lit (.int .u8 15), .lit (.int .u8 34), .lit (.int .u8 20), .lit (.int .u8 31), .lit (.int .u8 10), .lit (.int .u8 25), .lit (.int .u8 14), .lit (.int .u8 19), .lit (.int .u8 9), .lit (.int .u8 13), .lit (.int .u8 8), .lit (.int .u8 7), .lit (.int .u8 6)]

/-- 'hasselaw.PolyOnto': WHATEVER THE INPUT: true; the input reads as it did. -/
def polyOntoSpec : ChangeSpec := { name := "polyOnto", fn := fun _ => fun
  | [d] => { results := [.lit (.bool true)], args := [d] }
  | _ => none }
def polyOntoRow : OpenClaim := { program := "ytkackilhfkicoaadoor", sum := "aedbff6d18a6d079edecbfd727573e2b8baeefc3c808dbd655ad4b2992f9098e", func := "hasse/hasselaw.PolyOnto", spec := "polyOnto", unfollowed := true, recurses := true, named := ["math/bits.deBruijn32tab", "math/bits.deBruijn64tab"], apart := false, laid := [("math/bits.deBruijn32tab", laid_math_bits_deBruijn32tab), ("math/bits.deBruijn64tab", laid_math_bits_deBruijn64tab)] }
def PolyOntoSaid : Prop := polyOntoRow.holds Tryd.pinned (OpenSpec.ofChange polyOntoSpec)

/-- ITS FALSE NEIGHBOUR: 'it returns false'. Refute it at one input. -/
def polyOntoWrong : ChangeSpec := { name := "polyOnto", fn := fun _ => fun
  | [d] => { results := [.lit (.bool false)], args := [d] }
  | _ => none }
def PolyOntoWrongFalsely : Prop := polyOntoRow.holds Tryd.pinned (OpenSpec.ofChange polyOntoWrong)

/-- 'hasselaw.PolyValues': WHATEVER THE INPUT: true; the input reads as it did. -/
def polyValuesSpec : ChangeSpec := { name := "polyValues", fn := fun _ => fun
  | [d1, d2] => { results := [.lit (.bool true)], args := [d1, d2] }
  | _ => none }
def polyValuesRow : OpenClaim := { program := "ytkackilhfkicoaadoor", sum := "aedbff6d18a6d079edecbfd727573e2b8baeefc3c808dbd655ad4b2992f9098e", func := "hasse/hasselaw.PolyValues", spec := "polyValues", unfollowed := true, recurses := true, named := ["math/bits.deBruijn32tab", "math/bits.deBruijn64tab"], apart := false, laid := [("math/bits.deBruijn32tab", laid_math_bits_deBruijn32tab), ("math/bits.deBruijn64tab", laid_math_bits_deBruijn64tab)] }
def PolyValuesSaid : Prop := polyValuesRow.holds Tryd.pinned (OpenSpec.ofChange polyValuesSpec)

/-- ITS FALSE NEIGHBOUR: 'it returns false'. Refute it at one input. -/
def polyValuesWrong : ChangeSpec := { name := "polyValues", fn := fun _ => fun
  | [d1, d2] => { results := [.lit (.bool false)], args := [d1, d2] }
  | _ => none }
def PolyValuesWrongFalsely : Prop := polyValuesRow.holds Tryd.pinned (OpenSpec.ofChange polyValuesWrong)

/-- 'hasselaw.PolyStrict': WHATEVER THE INPUT: true; the input reads as it did. -/
def polyStrictSpec : ChangeSpec := { name := "polyStrict", fn := fun _ => fun
  | [d1, d2] => { results := [.lit (.bool true)], args := [d1, d2] }
  | _ => none }
def polyStrictRow : OpenClaim := { program := "ytkackilhfkicoaadoor", sum := "aedbff6d18a6d079edecbfd727573e2b8baeefc3c808dbd655ad4b2992f9098e", func := "hasse/hasselaw.PolyStrict", spec := "polyStrict", unfollowed := true, recurses := true, named := ["math/bits.deBruijn32tab", "math/bits.deBruijn64tab"], apart := false, laid := [("math/bits.deBruijn32tab", laid_math_bits_deBruijn32tab), ("math/bits.deBruijn64tab", laid_math_bits_deBruijn64tab)] }
def PolyStrictSaid : Prop := polyStrictRow.holds Tryd.pinned (OpenSpec.ofChange polyStrictSpec)

/-- ITS FALSE NEIGHBOUR: 'it returns false'. Refute it at one input. -/
def polyStrictWrong : ChangeSpec := { name := "polyStrict", fn := fun _ => fun
  | [d1, d2] => { results := [.lit (.bool false)], args := [d1, d2] }
  | _ => none }
def PolyStrictWrongFalsely : Prop := polyStrictRow.holds Tryd.pinned (OpenSpec.ofChange polyStrictWrong)

/-- 'hasselaw.PolyZeta': WHATEVER THE INPUT: true; the input reads as it did. -/
def polyZetaSpec : ChangeSpec := { name := "polyZeta", fn := fun _ => fun
  | [d1, d2] => { results := [.lit (.bool true)], args := [d1, d2] }
  | _ => none }
def polyZetaRow : OpenClaim := { program := "ytkackilhfkicoaadoor", sum := "aedbff6d18a6d079edecbfd727573e2b8baeefc3c808dbd655ad4b2992f9098e", func := "hasse/hasselaw.PolyZeta", spec := "polyZeta", unfollowed := true, recurses := true, named := ["math/bits.deBruijn32tab", "math/bits.deBruijn64tab"], apart := false, laid := [("math/bits.deBruijn32tab", laid_math_bits_deBruijn32tab), ("math/bits.deBruijn64tab", laid_math_bits_deBruijn64tab)] }
def PolyZetaSaid : Prop := polyZetaRow.holds Tryd.pinned (OpenSpec.ofChange polyZetaSpec)

/-- ITS FALSE NEIGHBOUR: 'it returns false'. Refute it at one input. -/
def polyZetaWrong : ChangeSpec := { name := "polyZeta", fn := fun _ => fun
  | [d1, d2] => { results := [.lit (.bool false)], args := [d1, d2] }
  | _ => none }
def PolyZetaWrongFalsely : Prop := polyZetaRow.holds Tryd.pinned (OpenSpec.ofChange polyZetaWrong)

/-- 'hasselaw.PolyCounts': WHATEVER THE INPUT: true; the input reads as it did. -/
def polyCountsSpec : ChangeSpec := { name := "polyCounts", fn := fun _ => fun
  | [d1, d2] => { results := [.lit (.bool true)], args := [d1, d2] }
  | _ => none }
def polyCountsRow : OpenClaim := { program := "ytkackilhfkicoaadoor", sum := "aedbff6d18a6d079edecbfd727573e2b8baeefc3c808dbd655ad4b2992f9098e", func := "hasse/hasselaw.PolyCounts", spec := "polyCounts", unfollowed := true, recurses := true, named := ["math/bits.deBruijn32tab", "math/bits.deBruijn64tab"], apart := false, laid := [("math/bits.deBruijn32tab", laid_math_bits_deBruijn32tab), ("math/bits.deBruijn64tab", laid_math_bits_deBruijn64tab)] }
def PolyCountsSaid : Prop := polyCountsRow.holds Tryd.pinned (OpenSpec.ofChange polyCountsSpec)

/-- ITS FALSE NEIGHBOUR: 'it returns false'. Refute it at one input. -/
def polyCountsWrong : ChangeSpec := { name := "polyCounts", fn := fun _ => fun
  | [d1, d2] => { results := [.lit (.bool false)], args := [d1, d2] }
  | _ => none }
def PolyCountsWrongFalsely : Prop := polyCountsRow.holds Tryd.pinned (OpenSpec.ofChange polyCountsWrong)

/-- 'hasselaw.PolyStanley': WHATEVER THE INPUT: true; the input reads as it did. -/
def polyStanleySpec : ChangeSpec := { name := "polyStanley", fn := fun _ => fun
  | [d1, d2] => { results := [.lit (.bool true)], args := [d1, d2] }
  | _ => none }
def polyStanleyRow : OpenClaim := { program := "ytkackilhfkicoaadoor", sum := "aedbff6d18a6d079edecbfd727573e2b8baeefc3c808dbd655ad4b2992f9098e", func := "hasse/hasselaw.PolyStanley", spec := "polyStanley", unfollowed := true, recurses := true, named := ["math/bits.deBruijn32tab", "math/bits.deBruijn64tab"], apart := false, laid := [("math/bits.deBruijn32tab", laid_math_bits_deBruijn32tab), ("math/bits.deBruijn64tab", laid_math_bits_deBruijn64tab)] }
def PolyStanleySaid : Prop := polyStanleyRow.holds Tryd.pinned (OpenSpec.ofChange polyStanleySpec)

/-- ITS FALSE NEIGHBOUR: 'it returns false'. Refute it at one input. -/
def polyStanleyWrong : ChangeSpec := { name := "polyStanley", fn := fun _ => fun
  | [d1, d2] => { results := [.lit (.bool false)], args := [d1, d2] }
  | _ => none }
def PolyStanleyWrongFalsely : Prop := polyStanleyRow.holds Tryd.pinned (OpenSpec.ofChange polyStanleyWrong)

/-- 'hasselaw.PolyLists': WHATEVER THE INPUT: true; the input reads as it did. -/
def polyListsSpec : ChangeSpec := { name := "polyLists", fn := fun _ => fun
  | [d1, d2] => { results := [.lit (.bool true)], args := [d1, d2] }
  | _ => none }
def polyListsRow : OpenClaim := { program := "ytkackilhfkicoaadoor", sum := "aedbff6d18a6d079edecbfd727573e2b8baeefc3c808dbd655ad4b2992f9098e", func := "hasse/hasselaw.PolyLists", spec := "polyLists", unfollowed := true, recurses := true, named := ["math/bits.deBruijn32tab", "math/bits.deBruijn64tab"], apart := false, laid := [("math/bits.deBruijn32tab", laid_math_bits_deBruijn32tab), ("math/bits.deBruijn64tab", laid_math_bits_deBruijn64tab)] }
def PolyListsSaid : Prop := polyListsRow.holds Tryd.pinned (OpenSpec.ofChange polyListsSpec)

/-- ITS FALSE NEIGHBOUR: 'it returns false'. Refute it at one input. -/
def polyListsWrong : ChangeSpec := { name := "polyLists", fn := fun _ => fun
  | [d1, d2] => { results := [.lit (.bool false)], args := [d1, d2] }
  | _ => none }
def PolyListsWrongFalsely : Prop := polyListsRow.holds Tryd.pinned (OpenSpec.ofChange polyListsWrong)

/-- 'hasselaw.PolyHall': WHATEVER THE INPUT: true; the input reads as it did. -/
def polyHallSpec : ChangeSpec := { name := "polyHall", fn := fun _ => fun
  | [d] => { results := [.lit (.bool true)], args := [d] }
  | _ => none }
def polyHallRow : OpenClaim := { program := "ytkackilhfkicoaadoor", sum := "aedbff6d18a6d079edecbfd727573e2b8baeefc3c808dbd655ad4b2992f9098e", func := "hasse/hasselaw.PolyHall", spec := "polyHall", unfollowed := true, recurses := true, named := ["math/bits.deBruijn32tab", "math/bits.deBruijn64tab"], apart := false, laid := [("math/bits.deBruijn32tab", laid_math_bits_deBruijn32tab), ("math/bits.deBruijn64tab", laid_math_bits_deBruijn64tab)] }
def PolyHallSaid : Prop := polyHallRow.holds Tryd.pinned (OpenSpec.ofChange polyHallSpec)

/-- ITS FALSE NEIGHBOUR: 'it returns false'. Refute it at one input. -/
def polyHallWrong : ChangeSpec := { name := "polyHall", fn := fun _ => fun
  | [d] => { results := [.lit (.bool false)], args := [d] }
  | _ => none }
def PolyHallWrongFalsely : Prop := polyHallRow.holds Tryd.pinned (OpenSpec.ofChange polyHallWrong)

/-- 'hasselaw.PolyRows': WHATEVER THE INPUT: true; the input reads as it did. -/
def polyRowsSpec : ChangeSpec := { name := "polyRows", fn := fun _ => fun
  | [d] => { results := [.lit (.bool true)], args := [d] }
  | _ => none }
def polyRowsRow : OpenClaim := { program := "ytkackilhfkicoaadoor", sum := "aedbff6d18a6d079edecbfd727573e2b8baeefc3c808dbd655ad4b2992f9098e", func := "hasse/hasselaw.PolyRows", spec := "polyRows", unfollowed := true, recurses := true, named := ["math/bits.deBruijn32tab", "math/bits.deBruijn64tab"], apart := false, laid := [("math/bits.deBruijn32tab", laid_math_bits_deBruijn32tab), ("math/bits.deBruijn64tab", laid_math_bits_deBruijn64tab)] }
def PolyRowsSaid : Prop := polyRowsRow.holds Tryd.pinned (OpenSpec.ofChange polyRowsSpec)

/-- ITS FALSE NEIGHBOUR: 'it returns false'. Refute it at one input. -/
def polyRowsWrong : ChangeSpec := { name := "polyRows", fn := fun _ => fun
  | [d] => { results := [.lit (.bool false)], args := [d] }
  | _ => none }
def PolyRowsWrongFalsely : Prop := polyRowsRow.holds Tryd.pinned (OpenSpec.ofChange polyRowsWrong)

/-- 'hasselaw.MoebiusUndo': WHATEVER THE INPUT: true; the input reads as it did. -/
def moebiusUndoSpec : ChangeSpec := { name := "moebiusUndo", fn := fun _ => fun
  | [d1, d2] => { results := [.lit (.bool true)], args := [d1, d2] }
  | _ => none }
def moebiusUndoRow : OpenClaim := { program := "ytkackilhfkicoaadoor", sum := "aedbff6d18a6d079edecbfd727573e2b8baeefc3c808dbd655ad4b2992f9098e", func := "hasse/hasselaw.MoebiusUndo", spec := "moebiusUndo", unfollowed := true, recurses := true, named := ["math/bits.deBruijn32tab", "math/bits.deBruijn64tab"], apart := false, laid := [("math/bits.deBruijn32tab", laid_math_bits_deBruijn32tab), ("math/bits.deBruijn64tab", laid_math_bits_deBruijn64tab)] }
def MoebiusUndoSaid : Prop := moebiusUndoRow.holds Tryd.pinned (OpenSpec.ofChange moebiusUndoSpec)

/-- ITS FALSE NEIGHBOUR: 'it returns false'. Refute it at one input. -/
def moebiusUndoWrong : ChangeSpec := { name := "moebiusUndo", fn := fun _ => fun
  | [d1, d2] => { results := [.lit (.bool false)], args := [d1, d2] }
  | _ => none }
def MoebiusUndoWrongFalsely : Prop := moebiusUndoRow.holds Tryd.pinned (OpenSpec.ofChange moebiusUndoWrong)

/-- 'hasselaw.MoebiusInverts': WHATEVER THE INPUT: true; the input reads as it did. -/
def moebiusInvertsSpec : ChangeSpec := { name := "moebiusInverts", fn := fun _ => fun
  | [d1, d2] => { results := [.lit (.bool true)], args := [d1, d2] }
  | _ => none }
def moebiusInvertsRow : OpenClaim := { program := "ytkackilhfkicoaadoor", sum := "aedbff6d18a6d079edecbfd727573e2b8baeefc3c808dbd655ad4b2992f9098e", func := "hasse/hasselaw.MoebiusInverts", spec := "moebiusInverts", unfollowed := true, recurses := true, named := ["math/bits.deBruijn32tab", "math/bits.deBruijn64tab"], apart := false, laid := [("math/bits.deBruijn32tab", laid_math_bits_deBruijn32tab), ("math/bits.deBruijn64tab", laid_math_bits_deBruijn64tab)] }
def MoebiusInvertsSaid : Prop := moebiusInvertsRow.holds Tryd.pinned (OpenSpec.ofChange moebiusInvertsSpec)

/-- ITS FALSE NEIGHBOUR: 'it returns false'. Refute it at one input. -/
def moebiusInvertsWrong : ChangeSpec := { name := "moebiusInverts", fn := fun _ => fun
  | [d1, d2] => { results := [.lit (.bool false)], args := [d1, d2] }
  | _ => none }
def MoebiusInvertsWrongFalsely : Prop := moebiusInvertsRow.holds Tryd.pinned (OpenSpec.ofChange moebiusInvertsWrong)

/-- 'hasselaw.MoebiusHall': WHATEVER THE INPUT: true; the input reads as it did. -/
def moebiusHallSpec : ChangeSpec := { name := "moebiusHall", fn := fun _ => fun
  | [d1, d2, d3] => { results := [.lit (.bool true)], args := [d1, d2, d3] }
  | _ => none }
def moebiusHallRow : OpenClaim := { program := "ytkackilhfkicoaadoor", sum := "aedbff6d18a6d079edecbfd727573e2b8baeefc3c808dbd655ad4b2992f9098e", func := "hasse/hasselaw.MoebiusHall", spec := "moebiusHall", unfollowed := true, recurses := true, named := ["math/bits.deBruijn32tab", "math/bits.deBruijn64tab"], apart := false, laid := [("math/bits.deBruijn32tab", laid_math_bits_deBruijn32tab), ("math/bits.deBruijn64tab", laid_math_bits_deBruijn64tab)] }
def MoebiusHallSaid : Prop := moebiusHallRow.holds Tryd.pinned (OpenSpec.ofChange moebiusHallSpec)

/-- ITS FALSE NEIGHBOUR: 'it returns false'. Refute it at one input. -/
def moebiusHallWrong : ChangeSpec := { name := "moebiusHall", fn := fun _ => fun
  | [d1, d2, d3] => { results := [.lit (.bool false)], args := [d1, d2, d3] }
  | _ => none }
def MoebiusHallWrongFalsely : Prop := moebiusHallRow.holds Tryd.pinned (OpenSpec.ofChange moebiusHallWrong)

/- THE SECOND FORM. 'bulk': how many values and letters a reading holds, each counted each time it is reached (what is shared counts as often as it is met; a slice's spare places count too). A statement '..UptoSaid' is the law's where the arguments, and the package variables that the reading takes, are together of bulk at most 1048576: NARROWER than '..Said'. Prove '..Said' where nothing that the law and all that it calls make is longer than what came in: it says more and counts as full. Else prove '..UptoSaid'. A law counts once. -/
mutual
def uptoBulk {H : Type} : DataW H → Nat
  | .lit (.string bytes) => bytes.length + 1
  | .lit _ => 1
  | .nil => 1
  | .ptr d => uptoBulk d + 1
  | .slice elems spare => uptoBulkAll elems + uptoBulkAll spare + 1
  | .agg parts => uptoBulkAll parts + 1
  | .iface _ d => uptoBulk d + 1
  | .map entries => uptoBulkEntries entries + 1
  | .held _ => 1
def uptoBulkAll {H : Type} : List (DataW H) → Nat
  | [] => 0
  | d :: r => uptoBulk d + uptoBulkAll r
def uptoBulkEntries {H : Type} : List (Lit × DataW H) → Nat
  | [] => 0
  | x :: r => uptoBulkEntry x + uptoBulkEntries r
def uptoBulkEntry {H : Type} : Lit × DataW H → Nat
  | (.string bytes, d) => bytes.length + uptoBulk d + 1
  | (_, d) => uptoBulk d + 1
 end
def uptoSmall : (H : Type) → List (DataW H) → Bool := fun _ ds => decide (uptoBulkAll ds ≤ 1048576)
def OpenSpec.upto (s : _root_.Go.ChangeSpec) : _root_.Go.OpenSpec := { _root_.Go.OpenSpec.ofChange s with cond := some uptoSmall }

/-- 'hasselaw.PolyOnto', WHERE WHAT IT READS IS OF BULK AT MOST 1048576: true; the input reads as it did. -/
def polyOntoUptoRow : OpenClaim := { program := "ytkackilhfkicoaadoor", sum := "aedbff6d18a6d079edecbfd727573e2b8baeefc3c808dbd655ad4b2992f9098e", func := "hasse/hasselaw.PolyOnto", spec := "polyOnto", unfollowed := true, recurses := true, named := ["math/bits.deBruijn32tab", "math/bits.deBruijn64tab"], apart := false, laid := [("math/bits.deBruijn32tab", laid_math_bits_deBruijn32tab), ("math/bits.deBruijn64tab", laid_math_bits_deBruijn64tab)], narrowed := true }
def PolyOntoUptoSaid : Prop := polyOntoUptoRow.holds Tryd.pinned (OpenSpec.upto polyOntoSpec)

/-- 'hasselaw.PolyValues', WHERE WHAT IT READS IS OF BULK AT MOST 1048576: true; the input reads as it did. -/
def polyValuesUptoRow : OpenClaim := { program := "ytkackilhfkicoaadoor", sum := "aedbff6d18a6d079edecbfd727573e2b8baeefc3c808dbd655ad4b2992f9098e", func := "hasse/hasselaw.PolyValues", spec := "polyValues", unfollowed := true, recurses := true, named := ["math/bits.deBruijn32tab", "math/bits.deBruijn64tab"], apart := false, laid := [("math/bits.deBruijn32tab", laid_math_bits_deBruijn32tab), ("math/bits.deBruijn64tab", laid_math_bits_deBruijn64tab)], narrowed := true }
def PolyValuesUptoSaid : Prop := polyValuesUptoRow.holds Tryd.pinned (OpenSpec.upto polyValuesSpec)

/-- 'hasselaw.PolyStrict', WHERE WHAT IT READS IS OF BULK AT MOST 1048576: true; the input reads as it did. -/
def polyStrictUptoRow : OpenClaim := { program := "ytkackilhfkicoaadoor", sum := "aedbff6d18a6d079edecbfd727573e2b8baeefc3c808dbd655ad4b2992f9098e", func := "hasse/hasselaw.PolyStrict", spec := "polyStrict", unfollowed := true, recurses := true, named := ["math/bits.deBruijn32tab", "math/bits.deBruijn64tab"], apart := false, laid := [("math/bits.deBruijn32tab", laid_math_bits_deBruijn32tab), ("math/bits.deBruijn64tab", laid_math_bits_deBruijn64tab)], narrowed := true }
def PolyStrictUptoSaid : Prop := polyStrictUptoRow.holds Tryd.pinned (OpenSpec.upto polyStrictSpec)

/-- 'hasselaw.PolyZeta', WHERE WHAT IT READS IS OF BULK AT MOST 1048576: true; the input reads as it did. -/
def polyZetaUptoRow : OpenClaim := { program := "ytkackilhfkicoaadoor", sum := "aedbff6d18a6d079edecbfd727573e2b8baeefc3c808dbd655ad4b2992f9098e", func := "hasse/hasselaw.PolyZeta", spec := "polyZeta", unfollowed := true, recurses := true, named := ["math/bits.deBruijn32tab", "math/bits.deBruijn64tab"], apart := false, laid := [("math/bits.deBruijn32tab", laid_math_bits_deBruijn32tab), ("math/bits.deBruijn64tab", laid_math_bits_deBruijn64tab)], narrowed := true }
def PolyZetaUptoSaid : Prop := polyZetaUptoRow.holds Tryd.pinned (OpenSpec.upto polyZetaSpec)

/-- 'hasselaw.PolyCounts', WHERE WHAT IT READS IS OF BULK AT MOST 1048576: true; the input reads as it did. -/
def polyCountsUptoRow : OpenClaim := { program := "ytkackilhfkicoaadoor", sum := "aedbff6d18a6d079edecbfd727573e2b8baeefc3c808dbd655ad4b2992f9098e", func := "hasse/hasselaw.PolyCounts", spec := "polyCounts", unfollowed := true, recurses := true, named := ["math/bits.deBruijn32tab", "math/bits.deBruijn64tab"], apart := false, laid := [("math/bits.deBruijn32tab", laid_math_bits_deBruijn32tab), ("math/bits.deBruijn64tab", laid_math_bits_deBruijn64tab)], narrowed := true }
def PolyCountsUptoSaid : Prop := polyCountsUptoRow.holds Tryd.pinned (OpenSpec.upto polyCountsSpec)

/-- 'hasselaw.PolyStanley', WHERE WHAT IT READS IS OF BULK AT MOST 1048576: true; the input reads as it did. -/
def polyStanleyUptoRow : OpenClaim := { program := "ytkackilhfkicoaadoor", sum := "aedbff6d18a6d079edecbfd727573e2b8baeefc3c808dbd655ad4b2992f9098e", func := "hasse/hasselaw.PolyStanley", spec := "polyStanley", unfollowed := true, recurses := true, named := ["math/bits.deBruijn32tab", "math/bits.deBruijn64tab"], apart := false, laid := [("math/bits.deBruijn32tab", laid_math_bits_deBruijn32tab), ("math/bits.deBruijn64tab", laid_math_bits_deBruijn64tab)], narrowed := true }
def PolyStanleyUptoSaid : Prop := polyStanleyUptoRow.holds Tryd.pinned (OpenSpec.upto polyStanleySpec)

/-- 'hasselaw.PolyLists', WHERE WHAT IT READS IS OF BULK AT MOST 1048576: true; the input reads as it did. -/
def polyListsUptoRow : OpenClaim := { program := "ytkackilhfkicoaadoor", sum := "aedbff6d18a6d079edecbfd727573e2b8baeefc3c808dbd655ad4b2992f9098e", func := "hasse/hasselaw.PolyLists", spec := "polyLists", unfollowed := true, recurses := true, named := ["math/bits.deBruijn32tab", "math/bits.deBruijn64tab"], apart := false, laid := [("math/bits.deBruijn32tab", laid_math_bits_deBruijn32tab), ("math/bits.deBruijn64tab", laid_math_bits_deBruijn64tab)], narrowed := true }
def PolyListsUptoSaid : Prop := polyListsUptoRow.holds Tryd.pinned (OpenSpec.upto polyListsSpec)

/-- 'hasselaw.PolyHall', WHERE WHAT IT READS IS OF BULK AT MOST 1048576: true; the input reads as it did. -/
def polyHallUptoRow : OpenClaim := { program := "ytkackilhfkicoaadoor", sum := "aedbff6d18a6d079edecbfd727573e2b8baeefc3c808dbd655ad4b2992f9098e", func := "hasse/hasselaw.PolyHall", spec := "polyHall", unfollowed := true, recurses := true, named := ["math/bits.deBruijn32tab", "math/bits.deBruijn64tab"], apart := false, laid := [("math/bits.deBruijn32tab", laid_math_bits_deBruijn32tab), ("math/bits.deBruijn64tab", laid_math_bits_deBruijn64tab)], narrowed := true }
def PolyHallUptoSaid : Prop := polyHallUptoRow.holds Tryd.pinned (OpenSpec.upto polyHallSpec)

/-- 'hasselaw.PolyRows', WHERE WHAT IT READS IS OF BULK AT MOST 1048576: true; the input reads as it did. -/
def polyRowsUptoRow : OpenClaim := { program := "ytkackilhfkicoaadoor", sum := "aedbff6d18a6d079edecbfd727573e2b8baeefc3c808dbd655ad4b2992f9098e", func := "hasse/hasselaw.PolyRows", spec := "polyRows", unfollowed := true, recurses := true, named := ["math/bits.deBruijn32tab", "math/bits.deBruijn64tab"], apart := false, laid := [("math/bits.deBruijn32tab", laid_math_bits_deBruijn32tab), ("math/bits.deBruijn64tab", laid_math_bits_deBruijn64tab)], narrowed := true }
def PolyRowsUptoSaid : Prop := polyRowsUptoRow.holds Tryd.pinned (OpenSpec.upto polyRowsSpec)

/-- 'hasselaw.MoebiusUndo', WHERE WHAT IT READS IS OF BULK AT MOST 1048576: true; the input reads as it did. -/
def moebiusUndoUptoRow : OpenClaim := { program := "ytkackilhfkicoaadoor", sum := "aedbff6d18a6d079edecbfd727573e2b8baeefc3c808dbd655ad4b2992f9098e", func := "hasse/hasselaw.MoebiusUndo", spec := "moebiusUndo", unfollowed := true, recurses := true, named := ["math/bits.deBruijn32tab", "math/bits.deBruijn64tab"], apart := false, laid := [("math/bits.deBruijn32tab", laid_math_bits_deBruijn32tab), ("math/bits.deBruijn64tab", laid_math_bits_deBruijn64tab)], narrowed := true }
def MoebiusUndoUptoSaid : Prop := moebiusUndoUptoRow.holds Tryd.pinned (OpenSpec.upto moebiusUndoSpec)

/-- 'hasselaw.MoebiusInverts', WHERE WHAT IT READS IS OF BULK AT MOST 1048576: true; the input reads as it did. -/
def moebiusInvertsUptoRow : OpenClaim := { program := "ytkackilhfkicoaadoor", sum := "aedbff6d18a6d079edecbfd727573e2b8baeefc3c808dbd655ad4b2992f9098e", func := "hasse/hasselaw.MoebiusInverts", spec := "moebiusInverts", unfollowed := true, recurses := true, named := ["math/bits.deBruijn32tab", "math/bits.deBruijn64tab"], apart := false, laid := [("math/bits.deBruijn32tab", laid_math_bits_deBruijn32tab), ("math/bits.deBruijn64tab", laid_math_bits_deBruijn64tab)], narrowed := true }
def MoebiusInvertsUptoSaid : Prop := moebiusInvertsUptoRow.holds Tryd.pinned (OpenSpec.upto moebiusInvertsSpec)

/-- 'hasselaw.MoebiusHall', WHERE WHAT IT READS IS OF BULK AT MOST 1048576: true; the input reads as it did. -/
def moebiusHallUptoRow : OpenClaim := { program := "ytkackilhfkicoaadoor", sum := "aedbff6d18a6d079edecbfd727573e2b8baeefc3c808dbd655ad4b2992f9098e", func := "hasse/hasselaw.MoebiusHall", spec := "moebiusHall", unfollowed := true, recurses := true, named := ["math/bits.deBruijn32tab", "math/bits.deBruijn64tab"], apart := false, laid := [("math/bits.deBruijn32tab", laid_math_bits_deBruijn32tab), ("math/bits.deBruijn64tab", laid_math_bits_deBruijn64tab)], narrowed := true }
def MoebiusHallUptoSaid : Prop := moebiusHallUptoRow.holds Tryd.pinned (OpenSpec.upto moebiusHallSpec)

end Rows
end Go.Proofs.YtkackilhfkicoaaDoor
