/-
  NARROWER THAN 'FOR EVERY INPUT', by the rows' own cells (each row's printed sentence says how): SpaceOpens: laid · SpaceTurns: laid · SpacePieces: laid · SpaceCloses: laid · SpaceKuratowski: laid · SpaceFrom: laid · SpaceSmooth: laid · SpaceConnected: laid · SpaceAlexandrov: laid · ConvexHulls: laid · ConvexCorners: laid · ConvexWords: laid.
  DERIVED. THE GIVEN ROWS OF THIS SEAT. 12 by the template 'for every input the law returns true; each argument reads behind the call as it read before'; 0 by the template 'total and deterministic' (their statements: YtajpfjmmhcbjkaaDoorTotals.lean).
  GIVEN WITH THE SEED: the statements are not yours to turn. If you find one false, say at which input.
  Laid BY PROGRAM, IN A SANDBOX (cutbox-rows.mjs): the forced cells as the released guide's own fill.sh prints them over the translation fbc3d846b330249f… (all of the seat's roots in one cut). By AI agents, Wed Nov 11 2026. No macro, syntax, notation, axiom, sorry.
-/
import Derived.Test.YtajpfjmmhcbjkaaDoorChecked
import GoSem.Claim
import GoSem.ClaimJoined
import GoSem.ClaimMapViews
import Derived.JoinedTies
import Derived.KernelRfl
namespace Go.Proofs.YtajpfjmmhcbjkaaDoor
/- THE CELL 'sum', in the pinned program and in every row, IS THE sha256 OF THE DUMP (.gsa) THAT YtajpfjmmhcbjkaaDoorProg.lean LOADS. Nothing in Lean hashes anything: it is a label: what it is worth is what the hold of that sum in a sandbox is worth. -/
noncomputable def Tryd.pinned : Pinned := { name := "ytajpfjmmhcbjkaadoor", sum := "fbc3d846b330249f9adb9a25878b93dc6000aafebbdafbf223cb7f8d72f345de", checked := Tryd.checked }
namespace Rows
def none {H : Type} : Left H := { results := [], args := [] }

/- WHAT THE LISTED PACKAGE-LEVEL VARIABLES READ AS WHEN THE CALL BEGINS. Each datum BY PROGRAM (the guide's laid-datum.mjs) off the statement by which the dump's own 'gosem.cut.vars' lays the variable. In a bare row this is a premise. The card (YtajpfjmmhcbjkaaDoorCards.lean) ties it to the program's text. -/
def laid_math_bits_deBruijn32tab {H : Type} : DataW H := .agg [.lit (.int .u8 0), .lit (.int .u8 1), .lit (.int .u8 28), .lit (.int .u8 2), .lit (.int .u8 29), .lit (.int .u8 14), .lit (.int .u8 24), .lit (.int .u8 3), .lit (.int .u8 30), .lit (.int .u8 22), .lit (.int .u8 20), .lit (.int .u8 15), .lit (.int .u8 25), .lit (.int .u8 17), .lit (.int .u8 4), .lit (.int .u8 8), .lit (.int .u8 31), .lit (.int .u8 27), .lit (.int .u8 13), .lit (.int .u8 23), .lit (.int .u8 21), .lit (.int .u8 19), .lit (.int .u8 16), .lit (.int .u8 7), .lit (.int .u8 26), .lit (.int .u8 12), .lit (.int .u8 18), .lit (.int .u8 6), .lit (.int .u8 11), .lit (.int .u8 5), .lit (.int .u8 10), .lit (.int .u8 9)]
def laid_math_bits_deBruijn64tab {H : Type} : DataW H := .agg [.lit (.int .u8 0), .lit (.int .u8 1), .lit (.int .u8 56), .lit (.int .u8 2), .lit (.int .u8 57), .lit (.int .u8 49), .lit (.int .u8 28), .lit (.int .u8 3), .lit (.int .u8 61), .lit (.int .u8 58), .lit (.int .u8 42), .lit (.int .u8 50), .lit (.int .u8 38), .lit (.int .u8 29), .lit (.int .u8 17), .lit (.int .u8 4), .lit (.int .u8 62), .lit (.int .u8 47), .lit (.int .u8 59), .lit (.int .u8 36), .lit (.int .u8 45), .lit (.int .u8 43), .lit (.int .u8 51), .lit (.int .u8 22), .lit (.int .u8 53), .lit (.int .u8 39), .lit (.int .u8 33), .lit (.int .u8 30), .lit (.int .u8 24), .lit (.int .u8 18), .lit (.int .u8 12), .lit (.int .u8 5), .lit (.int .u8 63), .lit (.int .u8 55), .lit (.int .u8 48), .lit (.int .u8 27), .lit (.int .u8 60), .lit (.int .u8 41), .lit (.int .u8 37), .lit (.int .u8 16), .lit (.int .u8 46), .lit (.int .u8 35), .lit (.int .u8 44), .lit (.int .u8 21), .lit (.int .u8 52), .lit (.int .u8 32), .lit (.int .u8 23), .lit (.int .u8 11), .lit (.int .u8 54), .lit (.int .u8 26), .lit (.int .u8 40), .lit (.int .u8 15), .lit (.int .u8 34), .lit (.int .u8 20), .lit (.int .u8 31), .lit (.int .u8 10), .lit (.int .u8 25), .lit (.int .u8 14), .lit (.int .u8 19), .lit (.int .u8 9), .lit (.int .u8 13), .lit (.int .u8 8), .lit (.int .u8 7), .lit (.int .u8 6)]

/-- 'hasselaw.SpaceOpens': WHATEVER THE INPUT: true; the input reads as it did. -/
def spaceOpensSpec : ChangeSpec := { name := "spaceOpens", fn := fun _ => fun
  | [d] => { results := [.lit (.bool true)], args := [d] }
  | _ => none }
def spaceOpensRow : OpenClaim := { program := "ytajpfjmmhcbjkaadoor", sum := "fbc3d846b330249f9adb9a25878b93dc6000aafebbdafbf223cb7f8d72f345de", func := "hasse/hasselaw.SpaceOpens", spec := "spaceOpens", unfollowed := true, recurses := true, named := ["math/bits.deBruijn32tab", "math/bits.deBruijn64tab"], apart := false, laid := [("math/bits.deBruijn32tab", laid_math_bits_deBruijn32tab), ("math/bits.deBruijn64tab", laid_math_bits_deBruijn64tab)] }
def SpaceOpensSaid : Prop := spaceOpensRow.holds Tryd.pinned (OpenSpec.ofChange spaceOpensSpec)

/-- ITS FALSE NEIGHBOUR: 'it returns false'. Refute it at one input. -/
def spaceOpensWrong : ChangeSpec := { name := "spaceOpens", fn := fun _ => fun
  | [d] => { results := [.lit (.bool false)], args := [d] }
  | _ => none }
def SpaceOpensWrongFalsely : Prop := spaceOpensRow.holds Tryd.pinned (OpenSpec.ofChange spaceOpensWrong)

/-- 'hasselaw.SpaceTurns': WHATEVER THE INPUT: true; the input reads as it did. -/
def spaceTurnsSpec : ChangeSpec := { name := "spaceTurns", fn := fun _ => fun
  | [d1, d2] => { results := [.lit (.bool true)], args := [d1, d2] }
  | _ => none }
def spaceTurnsRow : OpenClaim := { program := "ytajpfjmmhcbjkaadoor", sum := "fbc3d846b330249f9adb9a25878b93dc6000aafebbdafbf223cb7f8d72f345de", func := "hasse/hasselaw.SpaceTurns", spec := "spaceTurns", unfollowed := true, recurses := true, named := ["math/bits.deBruijn32tab", "math/bits.deBruijn64tab"], apart := false, laid := [("math/bits.deBruijn32tab", laid_math_bits_deBruijn32tab), ("math/bits.deBruijn64tab", laid_math_bits_deBruijn64tab)] }
def SpaceTurnsSaid : Prop := spaceTurnsRow.holds Tryd.pinned (OpenSpec.ofChange spaceTurnsSpec)

/-- ITS FALSE NEIGHBOUR: 'it returns false'. Refute it at one input. -/
def spaceTurnsWrong : ChangeSpec := { name := "spaceTurns", fn := fun _ => fun
  | [d1, d2] => { results := [.lit (.bool false)], args := [d1, d2] }
  | _ => none }
def SpaceTurnsWrongFalsely : Prop := spaceTurnsRow.holds Tryd.pinned (OpenSpec.ofChange spaceTurnsWrong)

/-- 'hasselaw.SpacePieces': WHATEVER THE INPUT: true; the input reads as it did. -/
def spacePiecesSpec : ChangeSpec := { name := "spacePieces", fn := fun _ => fun
  | [d] => { results := [.lit (.bool true)], args := [d] }
  | _ => none }
def spacePiecesRow : OpenClaim := { program := "ytajpfjmmhcbjkaadoor", sum := "fbc3d846b330249f9adb9a25878b93dc6000aafebbdafbf223cb7f8d72f345de", func := "hasse/hasselaw.SpacePieces", spec := "spacePieces", unfollowed := true, recurses := true, named := ["math/bits.deBruijn32tab", "math/bits.deBruijn64tab"], apart := false, laid := [("math/bits.deBruijn32tab", laid_math_bits_deBruijn32tab), ("math/bits.deBruijn64tab", laid_math_bits_deBruijn64tab)] }
def SpacePiecesSaid : Prop := spacePiecesRow.holds Tryd.pinned (OpenSpec.ofChange spacePiecesSpec)

/-- ITS FALSE NEIGHBOUR: 'it returns false'. Refute it at one input. -/
def spacePiecesWrong : ChangeSpec := { name := "spacePieces", fn := fun _ => fun
  | [d] => { results := [.lit (.bool false)], args := [d] }
  | _ => none }
def SpacePiecesWrongFalsely : Prop := spacePiecesRow.holds Tryd.pinned (OpenSpec.ofChange spacePiecesWrong)

/-- 'hasselaw.SpaceCloses': WHATEVER THE INPUT: true; the input reads as it did. -/
def spaceClosesSpec : ChangeSpec := { name := "spaceCloses", fn := fun _ => fun
  | [d1, d2] => { results := [.lit (.bool true)], args := [d1, d2] }
  | _ => none }
def spaceClosesRow : OpenClaim := { program := "ytajpfjmmhcbjkaadoor", sum := "fbc3d846b330249f9adb9a25878b93dc6000aafebbdafbf223cb7f8d72f345de", func := "hasse/hasselaw.SpaceCloses", spec := "spaceCloses", unfollowed := true, recurses := true, named := ["math/bits.deBruijn32tab", "math/bits.deBruijn64tab"], apart := false, laid := [("math/bits.deBruijn32tab", laid_math_bits_deBruijn32tab), ("math/bits.deBruijn64tab", laid_math_bits_deBruijn64tab)] }
def SpaceClosesSaid : Prop := spaceClosesRow.holds Tryd.pinned (OpenSpec.ofChange spaceClosesSpec)

/-- ITS FALSE NEIGHBOUR: 'it returns false'. Refute it at one input. -/
def spaceClosesWrong : ChangeSpec := { name := "spaceCloses", fn := fun _ => fun
  | [d1, d2] => { results := [.lit (.bool false)], args := [d1, d2] }
  | _ => none }
def SpaceClosesWrongFalsely : Prop := spaceClosesRow.holds Tryd.pinned (OpenSpec.ofChange spaceClosesWrong)

/-- 'hasselaw.SpaceKuratowski': WHATEVER THE INPUT: true; the input reads as it did. -/
def spaceKuratowskiSpec : ChangeSpec := { name := "spaceKuratowski", fn := fun _ => fun
  | [d1, d2, d3] => { results := [.lit (.bool true)], args := [d1, d2, d3] }
  | _ => none }
def spaceKuratowskiRow : OpenClaim := { program := "ytajpfjmmhcbjkaadoor", sum := "fbc3d846b330249f9adb9a25878b93dc6000aafebbdafbf223cb7f8d72f345de", func := "hasse/hasselaw.SpaceKuratowski", spec := "spaceKuratowski", unfollowed := true, recurses := true, named := ["math/bits.deBruijn32tab", "math/bits.deBruijn64tab"], apart := false, laid := [("math/bits.deBruijn32tab", laid_math_bits_deBruijn32tab), ("math/bits.deBruijn64tab", laid_math_bits_deBruijn64tab)] }
def SpaceKuratowskiSaid : Prop := spaceKuratowskiRow.holds Tryd.pinned (OpenSpec.ofChange spaceKuratowskiSpec)

/-- ITS FALSE NEIGHBOUR: 'it returns false'. Refute it at one input. -/
def spaceKuratowskiWrong : ChangeSpec := { name := "spaceKuratowski", fn := fun _ => fun
  | [d1, d2, d3] => { results := [.lit (.bool false)], args := [d1, d2, d3] }
  | _ => none }
def SpaceKuratowskiWrongFalsely : Prop := spaceKuratowskiRow.holds Tryd.pinned (OpenSpec.ofChange spaceKuratowskiWrong)

/-- 'hasselaw.SpaceFrom': WHATEVER THE INPUT: true; the input reads as it did. -/
def spaceFromSpec : ChangeSpec := { name := "spaceFrom", fn := fun _ => fun
  | [d1, d2] => { results := [.lit (.bool true)], args := [d1, d2] }
  | _ => none }
def spaceFromRow : OpenClaim := { program := "ytajpfjmmhcbjkaadoor", sum := "fbc3d846b330249f9adb9a25878b93dc6000aafebbdafbf223cb7f8d72f345de", func := "hasse/hasselaw.SpaceFrom", spec := "spaceFrom", unfollowed := true, recurses := true, named := ["math/bits.deBruijn32tab", "math/bits.deBruijn64tab"], apart := false, laid := [("math/bits.deBruijn32tab", laid_math_bits_deBruijn32tab), ("math/bits.deBruijn64tab", laid_math_bits_deBruijn64tab)] }
def SpaceFromSaid : Prop := spaceFromRow.holds Tryd.pinned (OpenSpec.ofChange spaceFromSpec)

/-- ITS FALSE NEIGHBOUR: 'it returns false'. Refute it at one input. -/
def spaceFromWrong : ChangeSpec := { name := "spaceFrom", fn := fun _ => fun
  | [d1, d2] => { results := [.lit (.bool false)], args := [d1, d2] }
  | _ => none }
def SpaceFromWrongFalsely : Prop := spaceFromRow.holds Tryd.pinned (OpenSpec.ofChange spaceFromWrong)

/-- 'hasselaw.SpaceSmooth': WHATEVER THE INPUT: true; the input reads as it did. -/
def spaceSmoothSpec : ChangeSpec := { name := "spaceSmooth", fn := fun _ => fun
  | [d1, d2, d3] => { results := [.lit (.bool true)], args := [d1, d2, d3] }
  | _ => none }
def spaceSmoothRow : OpenClaim := { program := "ytajpfjmmhcbjkaadoor", sum := "fbc3d846b330249f9adb9a25878b93dc6000aafebbdafbf223cb7f8d72f345de", func := "hasse/hasselaw.SpaceSmooth", spec := "spaceSmooth", unfollowed := true, recurses := true, named := ["math/bits.deBruijn32tab", "math/bits.deBruijn64tab"], apart := false, laid := [("math/bits.deBruijn32tab", laid_math_bits_deBruijn32tab), ("math/bits.deBruijn64tab", laid_math_bits_deBruijn64tab)] }
def SpaceSmoothSaid : Prop := spaceSmoothRow.holds Tryd.pinned (OpenSpec.ofChange spaceSmoothSpec)

/-- ITS FALSE NEIGHBOUR: 'it returns false'. Refute it at one input. -/
def spaceSmoothWrong : ChangeSpec := { name := "spaceSmooth", fn := fun _ => fun
  | [d1, d2, d3] => { results := [.lit (.bool false)], args := [d1, d2, d3] }
  | _ => none }
def SpaceSmoothWrongFalsely : Prop := spaceSmoothRow.holds Tryd.pinned (OpenSpec.ofChange spaceSmoothWrong)

/-- 'hasselaw.SpaceConnected': WHATEVER THE INPUT: true; the input reads as it did. -/
def spaceConnectedSpec : ChangeSpec := { name := "spaceConnected", fn := fun _ => fun
  | [d1, d2, d3] => { results := [.lit (.bool true)], args := [d1, d2, d3] }
  | _ => none }
def spaceConnectedRow : OpenClaim := { program := "ytajpfjmmhcbjkaadoor", sum := "fbc3d846b330249f9adb9a25878b93dc6000aafebbdafbf223cb7f8d72f345de", func := "hasse/hasselaw.SpaceConnected", spec := "spaceConnected", unfollowed := true, recurses := true, named := ["math/bits.deBruijn32tab", "math/bits.deBruijn64tab"], apart := false, laid := [("math/bits.deBruijn32tab", laid_math_bits_deBruijn32tab), ("math/bits.deBruijn64tab", laid_math_bits_deBruijn64tab)] }
def SpaceConnectedSaid : Prop := spaceConnectedRow.holds Tryd.pinned (OpenSpec.ofChange spaceConnectedSpec)

/-- ITS FALSE NEIGHBOUR: 'it returns false'. Refute it at one input. -/
def spaceConnectedWrong : ChangeSpec := { name := "spaceConnected", fn := fun _ => fun
  | [d1, d2, d3] => { results := [.lit (.bool false)], args := [d1, d2, d3] }
  | _ => none }
def SpaceConnectedWrongFalsely : Prop := spaceConnectedRow.holds Tryd.pinned (OpenSpec.ofChange spaceConnectedWrong)

/-- 'hasselaw.SpaceAlexandrov': WHATEVER THE INPUT: true; the input reads as it did. -/
def spaceAlexandrovSpec : ChangeSpec := { name := "spaceAlexandrov", fn := fun _ => fun
  | [d1, d2, d3] => { results := [.lit (.bool true)], args := [d1, d2, d3] }
  | _ => none }
def spaceAlexandrovRow : OpenClaim := { program := "ytajpfjmmhcbjkaadoor", sum := "fbc3d846b330249f9adb9a25878b93dc6000aafebbdafbf223cb7f8d72f345de", func := "hasse/hasselaw.SpaceAlexandrov", spec := "spaceAlexandrov", unfollowed := true, recurses := true, named := ["math/bits.deBruijn32tab", "math/bits.deBruijn64tab"], apart := false, laid := [("math/bits.deBruijn32tab", laid_math_bits_deBruijn32tab), ("math/bits.deBruijn64tab", laid_math_bits_deBruijn64tab)] }
def SpaceAlexandrovSaid : Prop := spaceAlexandrovRow.holds Tryd.pinned (OpenSpec.ofChange spaceAlexandrovSpec)

/-- ITS FALSE NEIGHBOUR: 'it returns false'. Refute it at one input. -/
def spaceAlexandrovWrong : ChangeSpec := { name := "spaceAlexandrov", fn := fun _ => fun
  | [d1, d2, d3] => { results := [.lit (.bool false)], args := [d1, d2, d3] }
  | _ => none }
def SpaceAlexandrovWrongFalsely : Prop := spaceAlexandrovRow.holds Tryd.pinned (OpenSpec.ofChange spaceAlexandrovWrong)

/-- 'hasselaw.ConvexHulls': WHATEVER THE INPUT: true; the input reads as it did. -/
def convexHullsSpec : ChangeSpec := { name := "convexHulls", fn := fun _ => fun
  | [d1, d2] => { results := [.lit (.bool true)], args := [d1, d2] }
  | _ => none }
def convexHullsRow : OpenClaim := { program := "ytajpfjmmhcbjkaadoor", sum := "fbc3d846b330249f9adb9a25878b93dc6000aafebbdafbf223cb7f8d72f345de", func := "hasse/hasselaw.ConvexHulls", spec := "convexHulls", named := ["math/bits.deBruijn32tab", "math/bits.deBruijn64tab"], apart := false, laid := [("math/bits.deBruijn32tab", laid_math_bits_deBruijn32tab), ("math/bits.deBruijn64tab", laid_math_bits_deBruijn64tab)] }
def ConvexHullsSaid : Prop := convexHullsRow.holds Tryd.pinned (OpenSpec.ofChange convexHullsSpec)

/-- ITS FALSE NEIGHBOUR: 'it returns false'. Refute it at one input. -/
def convexHullsWrong : ChangeSpec := { name := "convexHulls", fn := fun _ => fun
  | [d1, d2] => { results := [.lit (.bool false)], args := [d1, d2] }
  | _ => none }
def ConvexHullsWrongFalsely : Prop := convexHullsRow.holds Tryd.pinned (OpenSpec.ofChange convexHullsWrong)

/-- 'hasselaw.ConvexCorners': WHATEVER THE INPUT: true; the input reads as it did. -/
def convexCornersSpec : ChangeSpec := { name := "convexCorners", fn := fun _ => fun
  | [d1, d2] => { results := [.lit (.bool true)], args := [d1, d2] }
  | _ => none }
def convexCornersRow : OpenClaim := { program := "ytajpfjmmhcbjkaadoor", sum := "fbc3d846b330249f9adb9a25878b93dc6000aafebbdafbf223cb7f8d72f345de", func := "hasse/hasselaw.ConvexCorners", spec := "convexCorners", named := ["math/bits.deBruijn32tab", "math/bits.deBruijn64tab"], apart := false, laid := [("math/bits.deBruijn32tab", laid_math_bits_deBruijn32tab), ("math/bits.deBruijn64tab", laid_math_bits_deBruijn64tab)] }
def ConvexCornersSaid : Prop := convexCornersRow.holds Tryd.pinned (OpenSpec.ofChange convexCornersSpec)

/-- ITS FALSE NEIGHBOUR: 'it returns false'. Refute it at one input. -/
def convexCornersWrong : ChangeSpec := { name := "convexCorners", fn := fun _ => fun
  | [d1, d2] => { results := [.lit (.bool false)], args := [d1, d2] }
  | _ => none }
def ConvexCornersWrongFalsely : Prop := convexCornersRow.holds Tryd.pinned (OpenSpec.ofChange convexCornersWrong)

/-- 'hasselaw.ConvexWords': WHATEVER THE INPUT: true; the input reads as it did. -/
def convexWordsSpec : ChangeSpec := { name := "convexWords", fn := fun _ => fun
  | [d] => { results := [.lit (.bool true)], args := [d] }
  | _ => none }
def convexWordsRow : OpenClaim := { program := "ytajpfjmmhcbjkaadoor", sum := "fbc3d846b330249f9adb9a25878b93dc6000aafebbdafbf223cb7f8d72f345de", func := "hasse/hasselaw.ConvexWords", spec := "convexWords", named := ["math/bits.deBruijn32tab", "math/bits.deBruijn64tab"], apart := false, laid := [("math/bits.deBruijn32tab", laid_math_bits_deBruijn32tab), ("math/bits.deBruijn64tab", laid_math_bits_deBruijn64tab)] }
def ConvexWordsSaid : Prop := convexWordsRow.holds Tryd.pinned (OpenSpec.ofChange convexWordsSpec)

/-- ITS FALSE NEIGHBOUR: 'it returns false'. Refute it at one input. -/
def convexWordsWrong : ChangeSpec := { name := "convexWords", fn := fun _ => fun
  | [d] => { results := [.lit (.bool false)], args := [d] }
  | _ => none }
def ConvexWordsWrongFalsely : Prop := convexWordsRow.holds Tryd.pinned (OpenSpec.ofChange convexWordsWrong)

/- THE SECOND FORM. 'bulk': how many values and letters a reading holds, each counted each time it is reached (what is shared counts as often as it is met; a slice's spare places count too). A statement '..UptoSaid' is the law's where the arguments, and the package variables that the reading takes, are together of bulk at most 1048576: NARROWER than '..Said'. Prove '..Said' where nothing that the law and all that it calls make is longer than what came in: it says more and counts as full. Else prove '..UptoSaid'. A law counts once. -/
mutual
def uptoBulk {H : Type} : DataW H → Nat
  | .lit (.string bytes) => bytes.length + 1
  | .lit _ => 1
  | .nil => 1
  | .ptr d => uptoBulk d + 1
  | .slice elems spare => uptoBulkAll elems + uptoBulkAll spare + 1
  | .agg parts => uptoBulkAll parts + 1
  | .iface _ d => uptoBulk d + 1
  | .map entries => uptoBulkEntries entries + 1
  | .held _ => 1
def uptoBulkAll {H : Type} : List (DataW H) → Nat
  | [] => 0
  | d :: r => uptoBulk d + uptoBulkAll r
def uptoBulkEntries {H : Type} : List (Lit × DataW H) → Nat
  | [] => 0
  | x :: r => uptoBulkEntry x + uptoBulkEntries r
def uptoBulkEntry {H : Type} : Lit × DataW H → Nat
  | (.string bytes, d) => bytes.length + uptoBulk d + 1
  | (_, d) => uptoBulk d + 1
 end
def uptoSmall : (H : Type) → List (DataW H) → Bool := fun _ ds => decide (uptoBulkAll ds ≤ 1048576)
def OpenSpec.upto (s : _root_.Go.ChangeSpec) : _root_.Go.OpenSpec := { _root_.Go.OpenSpec.ofChange s with cond := some uptoSmall }

/-- 'hasselaw.SpaceOpens', WHERE WHAT IT READS IS OF BULK AT MOST 1048576: true; the input reads as it did. -/
def spaceOpensUptoRow : OpenClaim := { program := "ytajpfjmmhcbjkaadoor", sum := "fbc3d846b330249f9adb9a25878b93dc6000aafebbdafbf223cb7f8d72f345de", func := "hasse/hasselaw.SpaceOpens", spec := "spaceOpens", unfollowed := true, recurses := true, named := ["math/bits.deBruijn32tab", "math/bits.deBruijn64tab"], apart := false, laid := [("math/bits.deBruijn32tab", laid_math_bits_deBruijn32tab), ("math/bits.deBruijn64tab", laid_math_bits_deBruijn64tab)], narrowed := true }
def SpaceOpensUptoSaid : Prop := spaceOpensUptoRow.holds Tryd.pinned (OpenSpec.upto spaceOpensSpec)

/-- 'hasselaw.SpaceTurns', WHERE WHAT IT READS IS OF BULK AT MOST 1048576: true; the input reads as it did. -/
def spaceTurnsUptoRow : OpenClaim := { program := "ytajpfjmmhcbjkaadoor", sum := "fbc3d846b330249f9adb9a25878b93dc6000aafebbdafbf223cb7f8d72f345de", func := "hasse/hasselaw.SpaceTurns", spec := "spaceTurns", unfollowed := true, recurses := true, named := ["math/bits.deBruijn32tab", "math/bits.deBruijn64tab"], apart := false, laid := [("math/bits.deBruijn32tab", laid_math_bits_deBruijn32tab), ("math/bits.deBruijn64tab", laid_math_bits_deBruijn64tab)], narrowed := true }
def SpaceTurnsUptoSaid : Prop := spaceTurnsUptoRow.holds Tryd.pinned (OpenSpec.upto spaceTurnsSpec)

/-- 'hasselaw.SpacePieces', WHERE WHAT IT READS IS OF BULK AT MOST 1048576: true; the input reads as it did. -/
def spacePiecesUptoRow : OpenClaim := { program := "ytajpfjmmhcbjkaadoor", sum := "fbc3d846b330249f9adb9a25878b93dc6000aafebbdafbf223cb7f8d72f345de", func := "hasse/hasselaw.SpacePieces", spec := "spacePieces", unfollowed := true, recurses := true, named := ["math/bits.deBruijn32tab", "math/bits.deBruijn64tab"], apart := false, laid := [("math/bits.deBruijn32tab", laid_math_bits_deBruijn32tab), ("math/bits.deBruijn64tab", laid_math_bits_deBruijn64tab)], narrowed := true }
def SpacePiecesUptoSaid : Prop := spacePiecesUptoRow.holds Tryd.pinned (OpenSpec.upto spacePiecesSpec)

/-- 'hasselaw.SpaceCloses', WHERE WHAT IT READS IS OF BULK AT MOST 1048576: true; the input reads as it did. -/
def spaceClosesUptoRow : OpenClaim := { program := "ytajpfjmmhcbjkaadoor", sum := "fbc3d846b330249f9adb9a25878b93dc6000aafebbdafbf223cb7f8d72f345de", func := "hasse/hasselaw.SpaceCloses", spec := "spaceCloses", unfollowed := true, recurses := true, named := ["math/bits.deBruijn32tab", "math/bits.deBruijn64tab"], apart := false, laid := [("math/bits.deBruijn32tab", laid_math_bits_deBruijn32tab), ("math/bits.deBruijn64tab", laid_math_bits_deBruijn64tab)], narrowed := true }
def SpaceClosesUptoSaid : Prop := spaceClosesUptoRow.holds Tryd.pinned (OpenSpec.upto spaceClosesSpec)

/-- 'hasselaw.SpaceKuratowski', WHERE WHAT IT READS IS OF BULK AT MOST 1048576: true; the input reads as it did. -/
def spaceKuratowskiUptoRow : OpenClaim := { program := "ytajpfjmmhcbjkaadoor", sum := "fbc3d846b330249f9adb9a25878b93dc6000aafebbdafbf223cb7f8d72f345de", func := "hasse/hasselaw.SpaceKuratowski", spec := "spaceKuratowski", unfollowed := true, recurses := true, named := ["math/bits.deBruijn32tab", "math/bits.deBruijn64tab"], apart := false, laid := [("math/bits.deBruijn32tab", laid_math_bits_deBruijn32tab), ("math/bits.deBruijn64tab", laid_math_bits_deBruijn64tab)], narrowed := true }
def SpaceKuratowskiUptoSaid : Prop := spaceKuratowskiUptoRow.holds Tryd.pinned (OpenSpec.upto spaceKuratowskiSpec)

/-- 'hasselaw.SpaceFrom', WHERE WHAT IT READS IS OF BULK AT MOST 1048576: true; the input reads as it did. -/
def spaceFromUptoRow : OpenClaim := { program := "ytajpfjmmhcbjkaadoor", sum := "fbc3d846b330249f9adb9a25878b93dc6000aafebbdafbf223cb7f8d72f345de", func := "hasse/hasselaw.SpaceFrom", spec := "spaceFrom", unfollowed := true, recurses := true, named := ["math/bits.deBruijn32tab", "math/bits.deBruijn64tab"], apart := false, laid := [("math/bits.deBruijn32tab", laid_math_bits_deBruijn32tab), ("math/bits.deBruijn64tab", laid_math_bits_deBruijn64tab)], narrowed := true }
def SpaceFromUptoSaid : Prop := spaceFromUptoRow.holds Tryd.pinned (OpenSpec.upto spaceFromSpec)

/-- 'hasselaw.SpaceSmooth', WHERE WHAT IT READS IS OF BULK AT MOST 1048576: true; the input reads as it did. -/
def spaceSmoothUptoRow : OpenClaim := { program := "ytajpfjmmhcbjkaadoor", sum := "fbc3d846b330249f9adb9a25878b93dc6000aafebbdafbf223cb7f8d72f345de", func := "hasse/hasselaw.SpaceSmooth", spec := "spaceSmooth", unfollowed := true, recurses := true, named := ["math/bits.deBruijn32tab", "math/bits.deBruijn64tab"], apart := false, laid := [("math/bits.deBruijn32tab", laid_math_bits_deBruijn32tab), ("math/bits.deBruijn64tab", laid_math_bits_deBruijn64tab)], narrowed := true }
def SpaceSmoothUptoSaid : Prop := spaceSmoothUptoRow.holds Tryd.pinned (OpenSpec.upto spaceSmoothSpec)

/-- 'hasselaw.SpaceConnected', WHERE WHAT IT READS IS OF BULK AT MOST 1048576: true; the input reads as it did. -/
def spaceConnectedUptoRow : OpenClaim := { program := "ytajpfjmmhcbjkaadoor", sum := "fbc3d846b330249f9adb9a25878b93dc6000aafebbdafbf223cb7f8d72f345de", func := "hasse/hasselaw.SpaceConnected", spec := "spaceConnected", unfollowed := true, recurses := true, named := ["math/bits.deBruijn32tab", "math/bits.deBruijn64tab"], apart := false, laid := [("math/bits.deBruijn32tab", laid_math_bits_deBruijn32tab), ("math/bits.deBruijn64tab", laid_math_bits_deBruijn64tab)], narrowed := true }
def SpaceConnectedUptoSaid : Prop := spaceConnectedUptoRow.holds Tryd.pinned (OpenSpec.upto spaceConnectedSpec)

/-- 'hasselaw.SpaceAlexandrov', WHERE WHAT IT READS IS OF BULK AT MOST 1048576: true; the input reads as it did. -/
def spaceAlexandrovUptoRow : OpenClaim := { program := "ytajpfjmmhcbjkaadoor", sum := "fbc3d846b330249f9adb9a25878b93dc6000aafebbdafbf223cb7f8d72f345de", func := "hasse/hasselaw.SpaceAlexandrov", spec := "spaceAlexandrov", unfollowed := true, recurses := true, named := ["math/bits.deBruijn32tab", "math/bits.deBruijn64tab"], apart := false, laid := [("math/bits.deBruijn32tab", laid_math_bits_deBruijn32tab), ("math/bits.deBruijn64tab", laid_math_bits_deBruijn64tab)], narrowed := true }
def SpaceAlexandrovUptoSaid : Prop := spaceAlexandrovUptoRow.holds Tryd.pinned (OpenSpec.upto spaceAlexandrovSpec)

/-- 'hasselaw.ConvexHulls', WHERE WHAT IT READS IS OF BULK AT MOST 1048576: true; the input reads as it did. -/
def convexHullsUptoRow : OpenClaim := { program := "ytajpfjmmhcbjkaadoor", sum := "fbc3d846b330249f9adb9a25878b93dc6000aafebbdafbf223cb7f8d72f345de", func := "hasse/hasselaw.ConvexHulls", spec := "convexHulls", named := ["math/bits.deBruijn32tab", "math/bits.deBruijn64tab"], apart := false, laid := [("math/bits.deBruijn32tab", laid_math_bits_deBruijn32tab), ("math/bits.deBruijn64tab", laid_math_bits_deBruijn64tab)], narrowed := true }
def ConvexHullsUptoSaid : Prop := convexHullsUptoRow.holds Tryd.pinned (OpenSpec.upto convexHullsSpec)

/-- 'hasselaw.ConvexCorners', WHERE WHAT IT READS IS OF BULK AT MOST 1048576: true; the input reads as it did. -/
def convexCornersUptoRow : OpenClaim := { program := "ytajpfjmmhcbjkaadoor", sum := "fbc3d846b330249f9adb9a25878b93dc6000aafebbdafbf223cb7f8d72f345de", func := "hasse/hasselaw.ConvexCorners", spec := "convexCorners", named := ["math/bits.deBruijn32tab", "math/bits.deBruijn64tab"], apart := false, laid := [("math/bits.deBruijn32tab", laid_math_bits_deBruijn32tab), ("math/bits.deBruijn64tab", laid_math_bits_deBruijn64tab)], narrowed := true }
def ConvexCornersUptoSaid : Prop := convexCornersUptoRow.holds Tryd.pinned (OpenSpec.upto convexCornersSpec)

/-- 'hasselaw.ConvexWords', WHERE WHAT IT READS IS OF BULK AT MOST 1048576: true; the input reads as it did. -/
def convexWordsUptoRow : OpenClaim := { program := "ytajpfjmmhcbjkaadoor", sum := "fbc3d846b330249f9adb9a25878b93dc6000aafebbdafbf223cb7f8d72f345de", func := "hasse/hasselaw.ConvexWords", spec := "convexWords", named := ["math/bits.deBruijn32tab", "math/bits.deBruijn64tab"], apart := false, laid := [("math/bits.deBruijn32tab", laid_math_bits_deBruijn32tab), ("math/bits.deBruijn64tab", laid_math_bits_deBruijn64tab)], narrowed := true }
def ConvexWordsUptoSaid : Prop := convexWordsUptoRow.holds Tryd.pinned (OpenSpec.upto convexWordsSpec)

end Rows
end Go.Proofs.YtajpfjmmhcbjkaaDoor
