/-
  NARROWER THAN 'FOR EVERY INPUT', by the rows' own cells (each row's printed sentence says how): ClockCounts: laid · ClockMattern: laid · SpanOf: laid · SpanTwo: laid · SpanThree: laid · SpanUnits: laid · SpanSpans: laid · SpanFishburn: laid · ConvexFamilies: laid · ConvexRows: laid.
  DERIVED. THE GIVEN ROWS OF THIS SEAT. 10 by the template 'for every input the law returns true; each argument reads behind the call as it read before'; 0 by the template 'total and deterministic' (their statements: YtdkkalplgfhpdaaDoorTotals.lean).
  GIVEN WITH THE SEED: the statements are not yours to turn. If you find one false, say at which input.
  Laid BY PROGRAM, IN A SANDBOX (cutbox-rows.mjs): the forced cells as the released guide's own fill.sh prints them over the translation f43a53d1beab7070… (all of the seat's roots in one cut). By AI agents, Wed Nov 11 2026. No macro, syntax, notation, axiom, sorry.
-/
import Derived.Test.YtdkkalplgfhpdaaDoorChecked
import GoSem.Claim
import GoSem.ClaimJoined
import GoSem.ClaimMapViews
import Derived.JoinedTies
import Derived.KernelRfl
namespace Go.Proofs.YtdkkalplgfhpdaaDoor
/- THE CELL 'sum', in the pinned program and in every row, IS THE sha256 OF THE DUMP (.gsa) THAT YtdkkalplgfhpdaaDoorProg.lean LOADS. Nothing in Lean hashes anything: it is a label: what it is worth is what the hold of that sum in a sandbox is worth. -/
noncomputable def Tryd.pinned : Pinned := { name := "ytdkkalplgfhpdaadoor", sum := "f43a53d1beab70705fa75238c6bfdbbd7a9297fa98dd2b241ce0182510632302", checked := Tryd.checked }
namespace Rows
def none {H : Type} : Left H := { results := [], args := [] }

/- WHAT THE LISTED PACKAGE-LEVEL VARIABLES READ AS WHEN THE CALL BEGINS. Each datum BY PROGRAM (the guide's laid-datum.mjs) off the statement by which the dump's own 'gosem.cut.vars' lays the variable. In a bare row this is a premise. The card (YtdkkalplgfhpdaaDoorCards.lean) ties it to the program's text. -/
def laid_math_bits_deBruijn32tab {H : Type} : DataW H := .agg [.lit (.int .u8 0), .lit (.int .u8 1), .lit (.int .u8 28), .lit (.int .u8 2), .lit (.int .u8 29), .lit (.int .u8 14), .lit (.int .u8 24), .lit (.int .u8 3), .lit (.int .u8 30), .lit (.int .u8 22), .lit (.int .u8 20), .lit (.int .u8 15), .lit (.int .u8 25), .lit (.int .u8 17), .lit (.int .u8 4), .lit (.int .u8 8), .lit (.int .u8 31), .lit (.int .u8 27), .lit (.int .u8 13), .lit (.int .u8 23), .lit (.int .u8 21), .lit (.int .u8 19), .lit (.int .u8 16), .lit (.int .u8 7), .lit (.int .u8 26), .lit (.int .u8 12), .lit (.int .u8 18), .lit (.int .u8 6), .lit (.int .u8 11), .lit (.int .u8 5), .lit (.int .u8 10), .lit (.int .u8 9)]
def laid_math_bits_deBruijn64tab {H : Type} : DataW H := .agg [.lit (.int .u8 0), .lit (.int .u8 1), .lit (.int .u8 56), .lit (.int .u8 2), .lit (.int .u8 57), .lit (.int .u8 49), .lit (.int .u8 28), .lit (.int .u8 3), .lit (.int .u8 61), .lit (.int .u8 58), .lit (.int .u8 42), .lit (.int .u8 50), .lit (.int .u8 38), .lit (.int .u8 29), .lit (.int .u8 17), .lit (.int .u8 4), .lit (.int .u8 62), .lit (.int .u8 47), .lit (.int .u8 59), .lit (.int .u8 36), .lit (.int .u8 45), .lit (.int .u8 43), .lit (.int .u8 51), .lit (.int .u8 22), .lit (.int .u8 53), .lit (.int .u8 39), .lit (.int .u8 33), .lit (.int .u8 30), .lit (.int .u8 24), .lit (.int .u8 18), .lit (.int .u8 12), .lit (.int .u8 5), .lit (.int .u8 63), .lit (.int .u8 55), .lit (.int .u8 48), .lit (.int .u8 27), .lit (.int .u8 60), .lit (.int .u8 41), .lit (.int .u8 37), .lit (.int .u8 16), .lit (.int .u8 46), .lit (.int .u8 35), .lit (.int .u8 44), .lit (.int .u8 21), .lit (.int .u8 52), .lit (.int .u8 32), .lit (.int .u8 23), .lit (.int .u8 11), .lit (.int .u8 54), .lit (.int .u8 26), .lit (.int .u8 40), .lit (.int .u8 15), .lit (.int .u8 34), .lit (.int .u8 20), .lit (.int .u8 31), .lit (.int .u8 10), .lit (.int .u8 25), .lit (.int .u8 14), .lit (.int .u8 19), .lit (.int .u8 9), .lit (.int .u8 13), .lit (.int .u8 8), .lit (.int .u8 7), .lit (.int .u8 6)]

/-- 'hasselaw.ClockCounts': WHATEVER THE INPUT: true; the input reads as it did. -/
def clockCountsSpec : ChangeSpec := { name := "clockCounts", fn := fun _ => fun
  | [d1, d2] => { results := [.lit (.bool true)], args := [d1, d2] }
  | _ => none }
def clockCountsRow : OpenClaim := { program := "ytdkkalplgfhpdaadoor", sum := "f43a53d1beab70705fa75238c6bfdbbd7a9297fa98dd2b241ce0182510632302", func := "hasse/hasselaw.ClockCounts", spec := "clockCounts", unfollowed := true, recurses := true, named := ["math/bits.deBruijn32tab", "math/bits.deBruijn64tab"], apart := false, laid := [("math/bits.deBruijn32tab", laid_math_bits_deBruijn32tab), ("math/bits.deBruijn64tab", laid_math_bits_deBruijn64tab)] }
def ClockCountsSaid : Prop := clockCountsRow.holds Tryd.pinned (OpenSpec.ofChange clockCountsSpec)

/-- ITS FALSE NEIGHBOUR: 'it returns false'. Refute it at one input. -/
def clockCountsWrong : ChangeSpec := { name := "clockCounts", fn := fun _ => fun
  | [d1, d2] => { results := [.lit (.bool false)], args := [d1, d2] }
  | _ => none }
def ClockCountsWrongFalsely : Prop := clockCountsRow.holds Tryd.pinned (OpenSpec.ofChange clockCountsWrong)

/-- 'hasselaw.ClockMattern': WHATEVER THE INPUT: true; the input reads as it did. -/
def clockMatternSpec : ChangeSpec := { name := "clockMattern", fn := fun _ => fun
  | [d1, d2] => { results := [.lit (.bool true)], args := [d1, d2] }
  | _ => none }
def clockMatternRow : OpenClaim := { program := "ytdkkalplgfhpdaadoor", sum := "f43a53d1beab70705fa75238c6bfdbbd7a9297fa98dd2b241ce0182510632302", func := "hasse/hasselaw.ClockMattern", spec := "clockMattern", unfollowed := true, recurses := true, named := ["math/bits.deBruijn32tab", "math/bits.deBruijn64tab"], apart := false, laid := [("math/bits.deBruijn32tab", laid_math_bits_deBruijn32tab), ("math/bits.deBruijn64tab", laid_math_bits_deBruijn64tab)] }
def ClockMatternSaid : Prop := clockMatternRow.holds Tryd.pinned (OpenSpec.ofChange clockMatternSpec)

/-- ITS FALSE NEIGHBOUR: 'it returns false'. Refute it at one input. -/
def clockMatternWrong : ChangeSpec := { name := "clockMattern", fn := fun _ => fun
  | [d1, d2] => { results := [.lit (.bool false)], args := [d1, d2] }
  | _ => none }
def ClockMatternWrongFalsely : Prop := clockMatternRow.holds Tryd.pinned (OpenSpec.ofChange clockMatternWrong)

/-- 'hasselaw.SpanOf': WHATEVER THE INPUT: true; the input reads as it did. -/
def spanOfSpec : ChangeSpec := { name := "spanOf", fn := fun _ => fun
  | [d] => { results := [.lit (.bool true)], args := [d] }
  | _ => none }
def spanOfRow : OpenClaim := { program := "ytdkkalplgfhpdaadoor", sum := "f43a53d1beab70705fa75238c6bfdbbd7a9297fa98dd2b241ce0182510632302", func := "hasse/hasselaw.SpanOf", spec := "spanOf", unfollowed := true, recurses := true, named := ["math/bits.deBruijn32tab", "math/bits.deBruijn64tab"], apart := false, laid := [("math/bits.deBruijn32tab", laid_math_bits_deBruijn32tab), ("math/bits.deBruijn64tab", laid_math_bits_deBruijn64tab)] }
def SpanOfSaid : Prop := spanOfRow.holds Tryd.pinned (OpenSpec.ofChange spanOfSpec)

/-- ITS FALSE NEIGHBOUR: 'it returns false'. Refute it at one input. -/
def spanOfWrong : ChangeSpec := { name := "spanOf", fn := fun _ => fun
  | [d] => { results := [.lit (.bool false)], args := [d] }
  | _ => none }
def SpanOfWrongFalsely : Prop := spanOfRow.holds Tryd.pinned (OpenSpec.ofChange spanOfWrong)

/-- 'hasselaw.SpanTwo': WHATEVER THE INPUT: true; the input reads as it did. -/
def spanTwoSpec : ChangeSpec := { name := "spanTwo", fn := fun _ => fun
  | [d] => { results := [.lit (.bool true)], args := [d] }
  | _ => none }
def spanTwoRow : OpenClaim := { program := "ytdkkalplgfhpdaadoor", sum := "f43a53d1beab70705fa75238c6bfdbbd7a9297fa98dd2b241ce0182510632302", func := "hasse/hasselaw.SpanTwo", spec := "spanTwo", unfollowed := true, recurses := true, named := ["math/bits.deBruijn32tab", "math/bits.deBruijn64tab"], apart := false, laid := [("math/bits.deBruijn32tab", laid_math_bits_deBruijn32tab), ("math/bits.deBruijn64tab", laid_math_bits_deBruijn64tab)] }
def SpanTwoSaid : Prop := spanTwoRow.holds Tryd.pinned (OpenSpec.ofChange spanTwoSpec)

/-- ITS FALSE NEIGHBOUR: 'it returns false'. Refute it at one input. -/
def spanTwoWrong : ChangeSpec := { name := "spanTwo", fn := fun _ => fun
  | [d] => { results := [.lit (.bool false)], args := [d] }
  | _ => none }
def SpanTwoWrongFalsely : Prop := spanTwoRow.holds Tryd.pinned (OpenSpec.ofChange spanTwoWrong)

/-- 'hasselaw.SpanThree': WHATEVER THE INPUT: true; the input reads as it did. -/
def spanThreeSpec : ChangeSpec := { name := "spanThree", fn := fun _ => fun
  | [d] => { results := [.lit (.bool true)], args := [d] }
  | _ => none }
def spanThreeRow : OpenClaim := { program := "ytdkkalplgfhpdaadoor", sum := "f43a53d1beab70705fa75238c6bfdbbd7a9297fa98dd2b241ce0182510632302", func := "hasse/hasselaw.SpanThree", spec := "spanThree", unfollowed := true, recurses := true, named := ["math/bits.deBruijn32tab", "math/bits.deBruijn64tab"], apart := false, laid := [("math/bits.deBruijn32tab", laid_math_bits_deBruijn32tab), ("math/bits.deBruijn64tab", laid_math_bits_deBruijn64tab)] }
def SpanThreeSaid : Prop := spanThreeRow.holds Tryd.pinned (OpenSpec.ofChange spanThreeSpec)

/-- ITS FALSE NEIGHBOUR: 'it returns false'. Refute it at one input. -/
def spanThreeWrong : ChangeSpec := { name := "spanThree", fn := fun _ => fun
  | [d] => { results := [.lit (.bool false)], args := [d] }
  | _ => none }
def SpanThreeWrongFalsely : Prop := spanThreeRow.holds Tryd.pinned (OpenSpec.ofChange spanThreeWrong)

/-- 'hasselaw.SpanUnits': WHATEVER THE INPUT: true; the input reads as it did. -/
def spanUnitsSpec : ChangeSpec := { name := "spanUnits", fn := fun _ => fun
  | [d] => { results := [.lit (.bool true)], args := [d] }
  | _ => none }
def spanUnitsRow : OpenClaim := { program := "ytdkkalplgfhpdaadoor", sum := "f43a53d1beab70705fa75238c6bfdbbd7a9297fa98dd2b241ce0182510632302", func := "hasse/hasselaw.SpanUnits", spec := "spanUnits", unfollowed := true, recurses := true, named := ["math/bits.deBruijn32tab", "math/bits.deBruijn64tab"], apart := false, laid := [("math/bits.deBruijn32tab", laid_math_bits_deBruijn32tab), ("math/bits.deBruijn64tab", laid_math_bits_deBruijn64tab)] }
def SpanUnitsSaid : Prop := spanUnitsRow.holds Tryd.pinned (OpenSpec.ofChange spanUnitsSpec)

/-- ITS FALSE NEIGHBOUR: 'it returns false'. Refute it at one input. -/
def spanUnitsWrong : ChangeSpec := { name := "spanUnits", fn := fun _ => fun
  | [d] => { results := [.lit (.bool false)], args := [d] }
  | _ => none }
def SpanUnitsWrongFalsely : Prop := spanUnitsRow.holds Tryd.pinned (OpenSpec.ofChange spanUnitsWrong)

/-- 'hasselaw.SpanSpans': WHATEVER THE INPUT: true; the input reads as it did. -/
def spanSpansSpec : ChangeSpec := { name := "spanSpans", fn := fun _ => fun
  | [d] => { results := [.lit (.bool true)], args := [d] }
  | _ => none }
def spanSpansRow : OpenClaim := { program := "ytdkkalplgfhpdaadoor", sum := "f43a53d1beab70705fa75238c6bfdbbd7a9297fa98dd2b241ce0182510632302", func := "hasse/hasselaw.SpanSpans", spec := "spanSpans", unfollowed := true, recurses := true, named := ["math/bits.deBruijn32tab", "math/bits.deBruijn64tab"], apart := false, laid := [("math/bits.deBruijn32tab", laid_math_bits_deBruijn32tab), ("math/bits.deBruijn64tab", laid_math_bits_deBruijn64tab)] }
def SpanSpansSaid : Prop := spanSpansRow.holds Tryd.pinned (OpenSpec.ofChange spanSpansSpec)

/-- ITS FALSE NEIGHBOUR: 'it returns false'. Refute it at one input. -/
def spanSpansWrong : ChangeSpec := { name := "spanSpans", fn := fun _ => fun
  | [d] => { results := [.lit (.bool false)], args := [d] }
  | _ => none }
def SpanSpansWrongFalsely : Prop := spanSpansRow.holds Tryd.pinned (OpenSpec.ofChange spanSpansWrong)

/-- 'hasselaw.SpanFishburn': WHATEVER THE INPUT: true; the input reads as it did. -/
def spanFishburnSpec : ChangeSpec := { name := "spanFishburn", fn := fun _ => fun
  | [d1, d2] => { results := [.lit (.bool true)], args := [d1, d2] }
  | _ => none }
def spanFishburnRow : OpenClaim := { program := "ytdkkalplgfhpdaadoor", sum := "f43a53d1beab70705fa75238c6bfdbbd7a9297fa98dd2b241ce0182510632302", func := "hasse/hasselaw.SpanFishburn", spec := "spanFishburn", unfollowed := true, recurses := true, named := ["math/bits.deBruijn32tab", "math/bits.deBruijn64tab"], apart := false, laid := [("math/bits.deBruijn32tab", laid_math_bits_deBruijn32tab), ("math/bits.deBruijn64tab", laid_math_bits_deBruijn64tab)] }
def SpanFishburnSaid : Prop := spanFishburnRow.holds Tryd.pinned (OpenSpec.ofChange spanFishburnSpec)

/-- ITS FALSE NEIGHBOUR: 'it returns false'. Refute it at one input. -/
def spanFishburnWrong : ChangeSpec := { name := "spanFishburn", fn := fun _ => fun
  | [d1, d2] => { results := [.lit (.bool false)], args := [d1, d2] }
  | _ => none }
def SpanFishburnWrongFalsely : Prop := spanFishburnRow.holds Tryd.pinned (OpenSpec.ofChange spanFishburnWrong)

/-- 'hasselaw.ConvexFamilies': WHATEVER THE INPUT: true; the input reads as it did. -/
def convexFamiliesSpec : ChangeSpec := { name := "convexFamilies", fn := fun _ => fun
  | [d] => { results := [.lit (.bool true)], args := [d] }
  | _ => none }
def convexFamiliesRow : OpenClaim := { program := "ytdkkalplgfhpdaadoor", sum := "f43a53d1beab70705fa75238c6bfdbbd7a9297fa98dd2b241ce0182510632302", func := "hasse/hasselaw.ConvexFamilies", spec := "convexFamilies", recurses := true, named := ["math/bits.deBruijn32tab", "math/bits.deBruijn64tab"], apart := false, laid := [("math/bits.deBruijn32tab", laid_math_bits_deBruijn32tab), ("math/bits.deBruijn64tab", laid_math_bits_deBruijn64tab)] }
def ConvexFamiliesSaid : Prop := convexFamiliesRow.holds Tryd.pinned (OpenSpec.ofChange convexFamiliesSpec)

/-- ITS FALSE NEIGHBOUR: 'it returns false'. Refute it at one input. -/
def convexFamiliesWrong : ChangeSpec := { name := "convexFamilies", fn := fun _ => fun
  | [d] => { results := [.lit (.bool false)], args := [d] }
  | _ => none }
def ConvexFamiliesWrongFalsely : Prop := convexFamiliesRow.holds Tryd.pinned (OpenSpec.ofChange convexFamiliesWrong)

/-- 'hasselaw.ConvexRows': WHATEVER THE INPUT: true; the input reads as it did. -/
def convexRowsSpec : ChangeSpec := { name := "convexRows", fn := fun _ => fun
  | [d] => { results := [.lit (.bool true)], args := [d] }
  | _ => none }
def convexRowsRow : OpenClaim := { program := "ytdkkalplgfhpdaadoor", sum := "f43a53d1beab70705fa75238c6bfdbbd7a9297fa98dd2b241ce0182510632302", func := "hasse/hasselaw.ConvexRows", spec := "convexRows", recurses := true, named := ["math/bits.deBruijn32tab", "math/bits.deBruijn64tab"], apart := false, laid := [("math/bits.deBruijn32tab", laid_math_bits_deBruijn32tab), ("math/bits.deBruijn64tab", laid_math_bits_deBruijn64tab)] }
def ConvexRowsSaid : Prop := convexRowsRow.holds Tryd.pinned (OpenSpec.ofChange convexRowsSpec)

/-- ITS FALSE NEIGHBOUR: 'it returns false'. Refute it at one input. -/
def convexRowsWrong : ChangeSpec := { name := "convexRows", fn := fun _ => fun
  | [d] => { results := [.lit (.bool false)], args := [d] }
  | _ => none }
def ConvexRowsWrongFalsely : Prop := convexRowsRow.holds Tryd.pinned (OpenSpec.ofChange convexRowsWrong)

/- THE SECOND FORM. 'bulk': how many values and letters a reading holds, each counted each time it is reached (what is shared counts as often as it is met; a slice's spare places count too). A statement '..UptoSaid' is the law's where the arguments, and the package variables that the reading takes, are together of bulk at most 1048576: NARROWER than '..Said'. Prove '..Said' where nothing that the law and all that it calls make is longer than what came in: it says more and counts as full. Else prove '..UptoSaid'. A law counts once. -/
mutual
def uptoBulk {H : Type} : DataW H → Nat
  | .lit (.string bytes) => bytes.length + 1
  | .lit _ => 1
  | .nil => 1
  | .ptr d => uptoBulk d + 1
  | .slice elems spare => uptoBulkAll elems + uptoBulkAll spare + 1
  | .agg parts => uptoBulkAll parts + 1
  | .iface _ d => uptoBulk d + 1
  | .map entries => uptoBulkEntries entries + 1
  | .held _ => 1
def uptoBulkAll {H : Type} : List (DataW H) → Nat
  | [] => 0
  | d :: r => uptoBulk d + uptoBulkAll r
def uptoBulkEntries {H : Type} : List (Lit × DataW H) → Nat
  | [] => 0
  | x :: r => uptoBulkEntry x + uptoBulkEntries r
def uptoBulkEntry {H : Type} : Lit × DataW H → Nat
  | (.string bytes, d) => bytes.length + uptoBulk d + 1
  | (_, d) => uptoBulk d + 1
 end
def uptoSmall : (H : Type) → List (DataW H) → Bool := fun _ ds => decide (uptoBulkAll ds ≤ 1048576)
def OpenSpec.upto (s : _root_.Go.ChangeSpec) : _root_.Go.OpenSpec := { _root_.Go.OpenSpec.ofChange s with cond := some uptoSmall }

/-- 'hasselaw.ClockCounts', WHERE WHAT IT READS IS OF BULK AT MOST 1048576: true; the input reads as it did. -/
def clockCountsUptoRow : OpenClaim := { program := "ytdkkalplgfhpdaadoor", sum := "f43a53d1beab70705fa75238c6bfdbbd7a9297fa98dd2b241ce0182510632302", func := "hasse/hasselaw.ClockCounts", spec := "clockCounts", unfollowed := true, recurses := true, named := ["math/bits.deBruijn32tab", "math/bits.deBruijn64tab"], apart := false, laid := [("math/bits.deBruijn32tab", laid_math_bits_deBruijn32tab), ("math/bits.deBruijn64tab", laid_math_bits_deBruijn64tab)], narrowed := true }
def ClockCountsUptoSaid : Prop := clockCountsUptoRow.holds Tryd.pinned (OpenSpec.upto clockCountsSpec)

/-- 'hasselaw.ClockMattern', WHERE WHAT IT READS IS OF BULK AT MOST 1048576: true; the input reads as it did. -/
def clockMatternUptoRow : OpenClaim := { program := "ytdkkalplgfhpdaadoor", sum := "f43a53d1beab70705fa75238c6bfdbbd7a9297fa98dd2b241ce0182510632302", func := "hasse/hasselaw.ClockMattern", spec := "clockMattern", unfollowed := true, recurses := true, named := ["math/bits.deBruijn32tab", "math/bits.deBruijn64tab"], apart := false, laid := [("math/bits.deBruijn32tab", laid_math_bits_deBruijn32tab), ("math/bits.deBruijn64tab", laid_math_bits_deBruijn64tab)], narrowed := true }
def ClockMatternUptoSaid : Prop := clockMatternUptoRow.holds Tryd.pinned (OpenSpec.upto clockMatternSpec)

/-- 'hasselaw.SpanOf', WHERE WHAT IT READS IS OF BULK AT MOST 1048576: true; the input reads as it did. -/
def spanOfUptoRow : OpenClaim := { program := "ytdkkalplgfhpdaadoor", sum := "f43a53d1beab70705fa75238c6bfdbbd7a9297fa98dd2b241ce0182510632302", func := "hasse/hasselaw.SpanOf", spec := "spanOf", unfollowed := true, recurses := true, named := ["math/bits.deBruijn32tab", "math/bits.deBruijn64tab"], apart := false, laid := [("math/bits.deBruijn32tab", laid_math_bits_deBruijn32tab), ("math/bits.deBruijn64tab", laid_math_bits_deBruijn64tab)], narrowed := true }
def SpanOfUptoSaid : Prop := spanOfUptoRow.holds Tryd.pinned (OpenSpec.upto spanOfSpec)

/-- 'hasselaw.SpanTwo', WHERE WHAT IT READS IS OF BULK AT MOST 1048576: true; the input reads as it did. -/
def spanTwoUptoRow : OpenClaim := { program := "ytdkkalplgfhpdaadoor", sum := "f43a53d1beab70705fa75238c6bfdbbd7a9297fa98dd2b241ce0182510632302", func := "hasse/hasselaw.SpanTwo", spec := "spanTwo", unfollowed := true, recurses := true, named := ["math/bits.deBruijn32tab", "math/bits.deBruijn64tab"], apart := false, laid := [("math/bits.deBruijn32tab", laid_math_bits_deBruijn32tab), ("math/bits.deBruijn64tab", laid_math_bits_deBruijn64tab)], narrowed := true }
def SpanTwoUptoSaid : Prop := spanTwoUptoRow.holds Tryd.pinned (OpenSpec.upto spanTwoSpec)

/-- 'hasselaw.SpanThree', WHERE WHAT IT READS IS OF BULK AT MOST 1048576: true; the input reads as it did. -/
def spanThreeUptoRow : OpenClaim := { program := "ytdkkalplgfhpdaadoor", sum := "f43a53d1beab70705fa75238c6bfdbbd7a9297fa98dd2b241ce0182510632302", func := "hasse/hasselaw.SpanThree", spec := "spanThree", unfollowed := true, recurses := true, named := ["math/bits.deBruijn32tab", "math/bits.deBruijn64tab"], apart := false, laid := [("math/bits.deBruijn32tab", laid_math_bits_deBruijn32tab), ("math/bits.deBruijn64tab", laid_math_bits_deBruijn64tab)], narrowed := true }
def SpanThreeUptoSaid : Prop := spanThreeUptoRow.holds Tryd.pinned (OpenSpec.upto spanThreeSpec)

/-- 'hasselaw.SpanUnits', WHERE WHAT IT READS IS OF BULK AT MOST 1048576: true; the input reads as it did. -/
def spanUnitsUptoRow : OpenClaim := { program := "ytdkkalplgfhpdaadoor", sum := "f43a53d1beab70705fa75238c6bfdbbd7a9297fa98dd2b241ce0182510632302", func := "hasse/hasselaw.SpanUnits", spec := "spanUnits", unfollowed := true, recurses := true, named := ["math/bits.deBruijn32tab", "math/bits.deBruijn64tab"], apart := false, laid := [("math/bits.deBruijn32tab", laid_math_bits_deBruijn32tab), ("math/bits.deBruijn64tab", laid_math_bits_deBruijn64tab)], narrowed := true }
def SpanUnitsUptoSaid : Prop := spanUnitsUptoRow.holds Tryd.pinned (OpenSpec.upto spanUnitsSpec)

/-- 'hasselaw.SpanSpans', WHERE WHAT IT READS IS OF BULK AT MOST 1048576: true; the input reads as it did. -/
def spanSpansUptoRow : OpenClaim := { program := "ytdkkalplgfhpdaadoor", sum := "f43a53d1beab70705fa75238c6bfdbbd7a9297fa98dd2b241ce0182510632302", func := "hasse/hasselaw.SpanSpans", spec := "spanSpans", unfollowed := true, recurses := true, named := ["math/bits.deBruijn32tab", "math/bits.deBruijn64tab"], apart := false, laid := [("math/bits.deBruijn32tab", laid_math_bits_deBruijn32tab), ("math/bits.deBruijn64tab", laid_math_bits_deBruijn64tab)], narrowed := true }
def SpanSpansUptoSaid : Prop := spanSpansUptoRow.holds Tryd.pinned (OpenSpec.upto spanSpansSpec)

/-- 'hasselaw.SpanFishburn', WHERE WHAT IT READS IS OF BULK AT MOST 1048576: true; the input reads as it did. -/
def spanFishburnUptoRow : OpenClaim := { program := "ytdkkalplgfhpdaadoor", sum := "f43a53d1beab70705fa75238c6bfdbbd7a9297fa98dd2b241ce0182510632302", func := "hasse/hasselaw.SpanFishburn", spec := "spanFishburn", unfollowed := true, recurses := true, named := ["math/bits.deBruijn32tab", "math/bits.deBruijn64tab"], apart := false, laid := [("math/bits.deBruijn32tab", laid_math_bits_deBruijn32tab), ("math/bits.deBruijn64tab", laid_math_bits_deBruijn64tab)], narrowed := true }
def SpanFishburnUptoSaid : Prop := spanFishburnUptoRow.holds Tryd.pinned (OpenSpec.upto spanFishburnSpec)

/-- 'hasselaw.ConvexFamilies', WHERE WHAT IT READS IS OF BULK AT MOST 1048576: true; the input reads as it did. -/
def convexFamiliesUptoRow : OpenClaim := { program := "ytdkkalplgfhpdaadoor", sum := "f43a53d1beab70705fa75238c6bfdbbd7a9297fa98dd2b241ce0182510632302", func := "hasse/hasselaw.ConvexFamilies", spec := "convexFamilies", recurses := true, named := ["math/bits.deBruijn32tab", "math/bits.deBruijn64tab"], apart := false, laid := [("math/bits.deBruijn32tab", laid_math_bits_deBruijn32tab), ("math/bits.deBruijn64tab", laid_math_bits_deBruijn64tab)], narrowed := true }
def ConvexFamiliesUptoSaid : Prop := convexFamiliesUptoRow.holds Tryd.pinned (OpenSpec.upto convexFamiliesSpec)

/-- 'hasselaw.ConvexRows', WHERE WHAT IT READS IS OF BULK AT MOST 1048576: true; the input reads as it did. -/
def convexRowsUptoRow : OpenClaim := { program := "ytdkkalplgfhpdaadoor", sum := "f43a53d1beab70705fa75238c6bfdbbd7a9297fa98dd2b241ce0182510632302", func := "hasse/hasselaw.ConvexRows", spec := "convexRows", recurses := true, named := ["math/bits.deBruijn32tab", "math/bits.deBruijn64tab"], apart := false, laid := [("math/bits.deBruijn32tab", laid_math_bits_deBruijn32tab), ("math/bits.deBruijn64tab", laid_math_bits_deBruijn64tab)], narrowed := true }
def ConvexRowsUptoSaid : Prop := convexRowsUptoRow.holds Tryd.pinned (OpenSpec.upto convexRowsSpec)

end Rows
end Go.Proofs.YtdkkalplgfhpdaaDoor
