/-
  NARROWER THAN 'FOR EVERY INPUT', by the rows' own cells (each row's printed sentence says how): ConvexMinkowski: laid · ConvexExchange: laid · ConvexChecks: laid · FixMonotone: laid · FixCounts: laid · FixFixed: laid · FixCores: laid · FixEnds: laid · FixAlways: laid · FixTarski: laid · FixAbian: laid · FixRival: laid.
  DERIVED. THE GIVEN ROWS OF THIS SEAT. 12 by the template 'for every input the law returns true; each argument reads behind the call as it read before'; 0 by the template 'total and deterministic' (their statements: YtlihpalpkdgclaaDoorTotals.lean).
  GIVEN WITH THE SEED: the statements are not yours to turn. If you find one false, say at which input.
  Laid BY PROGRAM, IN A SANDBOX (cutbox-rows.mjs): the forced cells as the released guide's own fill.sh prints them over the translation 83e44536d9570ba1… (all of the seat's roots in one cut). By AI agents, Wed Nov 11 2026. No macro, syntax, notation, axiom, sorry.
-/
import Derived.Test.YtlihpalpkdgclaaDoorChecked
import GoSem.Claim
import GoSem.ClaimJoined
import GoSem.ClaimMapViews
import Derived.JoinedTies
import Derived.KernelRfl
namespace Go.Proofs.YtlihpalpkdgclaaDoor
/- THE CELL 'sum', in the pinned program and in every row, IS THE sha256 OF THE DUMP (.gsa) THAT YtlihpalpkdgclaaDoorProg.lean LOADS. Nothing in Lean hashes anything: it is a label: what it is worth is what the hold of that sum in a sandbox is worth. -/
noncomputable def Tryd.pinned : Pinned := { name := "ytlihpalpkdgclaadoor", sum := "83e44536d9570ba1939589c074f47c4ce4fc408957d318f2986f141293ce4cdf", checked := Tryd.checked }
namespace Rows
def none {H : Type} : Left H := { results := [], args := [] }

/- WHAT THE LISTED PACKAGE-LEVEL VARIABLES READ AS WHEN THE CALL BEGINS. Each datum BY PROGRAM (the guide's laid-datum.mjs) off the statement by which the dump's own 'gosem.cut.vars' lays the variable. In a bare row this is a premise. The card (YtlihpalpkdgclaaDoorCards.lean) ties it to the program's text. -/
def laid_math_bits_deBruijn32tab {H : Type} : DataW H := .agg [.lit (.int .u8 0), .lit (.int .u8 1), .lit (.int .u8 28), .lit (.int .u8 2), .lit (.int .u8 29), .lit (.int .u8 14), .lit (.int .u8 24), .lit (.int .u8 3), .lit (.int .u8 30), .lit (.int .u8 22), .lit (.int .u8 20), .lit (.int .u8 15), .lit (.int .u8 25), .lit (.int .u8 17), .lit (.int .u8 4), .lit (.int .u8 8), .lit (.int .u8 31), .lit (.int .u8 27), .lit (.int .u8 13), .lit (.int .u8 23), .lit (.int .u8 21), .lit (.int .u8 19), .lit (.int .u8 16), .lit (.int .u8 7), .lit (.int .u8 26), .lit (.int .u8 12), .lit (.int .u8 18), .lit (.int .u8 6), .lit (.int .u8 11), .lit (.int .u8 5), .lit (.int .u8 10), .lit (.int .u8 9)]
def laid_math_bits_deBruijn64tab {H : Type} : DataW H := .agg [.lit (.int .u8 0), .lit (.int .u8 1), .lit (.int .u8 56), .lit (.int .u8 2), .lit (.int .u8 57), .lit (.int .u8 49), .lit (.int .u8 28), .lit (.int .u8 3), .lit (.int .u8 61), .lit (.int .u8 58), .lit (.int .u8 42), .lit (.int .u8 50), .lit (.int .u8 38), .lit (.int .u8 29), .lit (.int .u8 17), .lit (.int .u8 4), .lit (.int .u8 62), .lit (.int .u8 47), .lit (.int .u8 59), .lit (.int .u8 36), .lit (.int .u8 45), .lit (.int .u8 43), .lit (.int .u8 51), .lit (.int .u8 22), .lit (.int .u8 53), .lit (.int .u8 39), .lit (.int .u8 33), .lit (.int .u8 30), .lit (.int .u8 24), .lit (.int .u8 18), .lit (.int .u8 12), .lit (.int .u8 5), .lit (.int .u8 63), .lit (.int .u8 55), .lit (.int .u8 48), .lit (.int .u8 27), .lit (.int .u8 60), .lit (.int .u8 41), .lit (.int .u8 37), .lit (.int .u8 16), .lit (.int .u8 46), .lit (.int .u8 35), .lit (.int .u8 44), .lit (.int .u8 21), .lit (.int .u8 52), .lit (.int .u8 32), .lit (.int .u8 23), .lit (.int .u8 11), .lit (.int .u8 54), .lit (.int .u8 26), .lit (.int .u8 40), .lit (.int .u8 15), .lit (.int .u8 34), .lit (.int .u8 20), .lit (.int .u8 31), .lit (.int .u8 10), .lit (.int .u8 25), .lit (.int .u8 14), .lit (.int .u8 19), .lit (.int .u8 9), .lit (.int .u8 13), .lit (.int .u8 8), .lit (.int .u8 7), .lit (.int .u8 6)]

/-- 'hasselaw.ConvexMinkowski': WHATEVER THE INPUT: true; the input reads as it did. -/
def convexMinkowskiSpec : ChangeSpec := { name := "convexMinkowski", fn := fun _ => fun
  | [d1, d2, d3] => { results := [.lit (.bool true)], args := [d1, d2, d3] }
  | _ => none }
def convexMinkowskiRow : OpenClaim := { program := "ytlihpalpkdgclaadoor", sum := "83e44536d9570ba1939589c074f47c4ce4fc408957d318f2986f141293ce4cdf", func := "hasse/hasselaw.ConvexMinkowski", spec := "convexMinkowski", named := ["math/bits.deBruijn32tab", "math/bits.deBruijn64tab"], apart := false, laid := [("math/bits.deBruijn32tab", laid_math_bits_deBruijn32tab), ("math/bits.deBruijn64tab", laid_math_bits_deBruijn64tab)] }
def ConvexMinkowskiSaid : Prop := convexMinkowskiRow.holds Tryd.pinned (OpenSpec.ofChange convexMinkowskiSpec)

/-- ITS FALSE NEIGHBOUR: 'it returns false'. Refute it at one input. -/
def convexMinkowskiWrong : ChangeSpec := { name := "convexMinkowski", fn := fun _ => fun
  | [d1, d2, d3] => { results := [.lit (.bool false)], args := [d1, d2, d3] }
  | _ => none }
def ConvexMinkowskiWrongFalsely : Prop := convexMinkowskiRow.holds Tryd.pinned (OpenSpec.ofChange convexMinkowskiWrong)

/-- 'hasselaw.ConvexExchange': WHATEVER THE INPUT: true; the input reads as it did. -/
def convexExchangeSpec : ChangeSpec := { name := "convexExchange", fn := fun _ => fun
  | [d1, d2, d3, d4] => { results := [.lit (.bool true)], args := [d1, d2, d3, d4] }
  | _ => none }
def convexExchangeRow : OpenClaim := { program := "ytlihpalpkdgclaadoor", sum := "83e44536d9570ba1939589c074f47c4ce4fc408957d318f2986f141293ce4cdf", func := "hasse/hasselaw.ConvexExchange", spec := "convexExchange", named := ["math/bits.deBruijn32tab", "math/bits.deBruijn64tab"], apart := false, laid := [("math/bits.deBruijn32tab", laid_math_bits_deBruijn32tab), ("math/bits.deBruijn64tab", laid_math_bits_deBruijn64tab)] }
def ConvexExchangeSaid : Prop := convexExchangeRow.holds Tryd.pinned (OpenSpec.ofChange convexExchangeSpec)

/-- ITS FALSE NEIGHBOUR: 'it returns false'. Refute it at one input. -/
def convexExchangeWrong : ChangeSpec := { name := "convexExchange", fn := fun _ => fun
  | [d1, d2, d3, d4] => { results := [.lit (.bool false)], args := [d1, d2, d3, d4] }
  | _ => none }
def ConvexExchangeWrongFalsely : Prop := convexExchangeRow.holds Tryd.pinned (OpenSpec.ofChange convexExchangeWrong)

/-- 'hasselaw.ConvexChecks': WHATEVER THE INPUT: true; the input reads as it did. -/
def convexChecksSpec : ChangeSpec := { name := "convexChecks", fn := fun _ => fun
  | [d] => { results := [.lit (.bool true)], args := [d] }
  | _ => none }
def convexChecksRow : OpenClaim := { program := "ytlihpalpkdgclaadoor", sum := "83e44536d9570ba1939589c074f47c4ce4fc408957d318f2986f141293ce4cdf", func := "hasse/hasselaw.ConvexChecks", spec := "convexChecks", named := ["math/bits.deBruijn32tab", "math/bits.deBruijn64tab"], apart := false, laid := [("math/bits.deBruijn32tab", laid_math_bits_deBruijn32tab), ("math/bits.deBruijn64tab", laid_math_bits_deBruijn64tab)] }
def ConvexChecksSaid : Prop := convexChecksRow.holds Tryd.pinned (OpenSpec.ofChange convexChecksSpec)

/-- ITS FALSE NEIGHBOUR: 'it returns false'. Refute it at one input. -/
def convexChecksWrong : ChangeSpec := { name := "convexChecks", fn := fun _ => fun
  | [d] => { results := [.lit (.bool false)], args := [d] }
  | _ => none }
def ConvexChecksWrongFalsely : Prop := convexChecksRow.holds Tryd.pinned (OpenSpec.ofChange convexChecksWrong)

/-- 'hasselaw.FixMonotone': WHATEVER THE INPUT: true; the input reads as it did. -/
def fixMonotoneSpec : ChangeSpec := { name := "fixMonotone", fn := fun _ => fun
  | [d1, d2, d3] => { results := [.lit (.bool true)], args := [d1, d2, d3] }
  | _ => none }
def fixMonotoneRow : OpenClaim := { program := "ytlihpalpkdgclaadoor", sum := "83e44536d9570ba1939589c074f47c4ce4fc408957d318f2986f141293ce4cdf", func := "hasse/hasselaw.FixMonotone", spec := "fixMonotone", unfollowed := true, recurses := true, named := ["math/bits.deBruijn32tab", "math/bits.deBruijn64tab"], apart := false, laid := [("math/bits.deBruijn32tab", laid_math_bits_deBruijn32tab), ("math/bits.deBruijn64tab", laid_math_bits_deBruijn64tab)] }
def FixMonotoneSaid : Prop := fixMonotoneRow.holds Tryd.pinned (OpenSpec.ofChange fixMonotoneSpec)

/-- ITS FALSE NEIGHBOUR: 'it returns false'. Refute it at one input. -/
def fixMonotoneWrong : ChangeSpec := { name := "fixMonotone", fn := fun _ => fun
  | [d1, d2, d3] => { results := [.lit (.bool false)], args := [d1, d2, d3] }
  | _ => none }
def FixMonotoneWrongFalsely : Prop := fixMonotoneRow.holds Tryd.pinned (OpenSpec.ofChange fixMonotoneWrong)

/-- 'hasselaw.FixCounts': WHATEVER THE INPUT: true; the input reads as it did. -/
def fixCountsSpec : ChangeSpec := { name := "fixCounts", fn := fun _ => fun
  | [d1, d2] => { results := [.lit (.bool true)], args := [d1, d2] }
  | _ => none }
def fixCountsRow : OpenClaim := { program := "ytlihpalpkdgclaadoor", sum := "83e44536d9570ba1939589c074f47c4ce4fc408957d318f2986f141293ce4cdf", func := "hasse/hasselaw.FixCounts", spec := "fixCounts", unfollowed := true, recurses := true, named := ["math/bits.deBruijn32tab", "math/bits.deBruijn64tab"], apart := false, laid := [("math/bits.deBruijn32tab", laid_math_bits_deBruijn32tab), ("math/bits.deBruijn64tab", laid_math_bits_deBruijn64tab)] }
def FixCountsSaid : Prop := fixCountsRow.holds Tryd.pinned (OpenSpec.ofChange fixCountsSpec)

/-- ITS FALSE NEIGHBOUR: 'it returns false'. Refute it at one input. -/
def fixCountsWrong : ChangeSpec := { name := "fixCounts", fn := fun _ => fun
  | [d1, d2] => { results := [.lit (.bool false)], args := [d1, d2] }
  | _ => none }
def FixCountsWrongFalsely : Prop := fixCountsRow.holds Tryd.pinned (OpenSpec.ofChange fixCountsWrong)

/-- 'hasselaw.FixFixed': WHATEVER THE INPUT: true; the input reads as it did. -/
def fixFixedSpec : ChangeSpec := { name := "fixFixed", fn := fun _ => fun
  | [d1, d2] => { results := [.lit (.bool true)], args := [d1, d2] }
  | _ => none }
def fixFixedRow : OpenClaim := { program := "ytlihpalpkdgclaadoor", sum := "83e44536d9570ba1939589c074f47c4ce4fc408957d318f2986f141293ce4cdf", func := "hasse/hasselaw.FixFixed", spec := "fixFixed", unfollowed := true, recurses := true, named := ["math/bits.deBruijn32tab", "math/bits.deBruijn64tab"], apart := false, laid := [("math/bits.deBruijn32tab", laid_math_bits_deBruijn32tab), ("math/bits.deBruijn64tab", laid_math_bits_deBruijn64tab)] }
def FixFixedSaid : Prop := fixFixedRow.holds Tryd.pinned (OpenSpec.ofChange fixFixedSpec)

/-- ITS FALSE NEIGHBOUR: 'it returns false'. Refute it at one input. -/
def fixFixedWrong : ChangeSpec := { name := "fixFixed", fn := fun _ => fun
  | [d1, d2] => { results := [.lit (.bool false)], args := [d1, d2] }
  | _ => none }
def FixFixedWrongFalsely : Prop := fixFixedRow.holds Tryd.pinned (OpenSpec.ofChange fixFixedWrong)

/-- 'hasselaw.FixCores': WHATEVER THE INPUT: true; the input reads as it did. -/
def fixCoresSpec : ChangeSpec := { name := "fixCores", fn := fun _ => fun
  | [d] => { results := [.lit (.bool true)], args := [d] }
  | _ => none }
def fixCoresRow : OpenClaim := { program := "ytlihpalpkdgclaadoor", sum := "83e44536d9570ba1939589c074f47c4ce4fc408957d318f2986f141293ce4cdf", func := "hasse/hasselaw.FixCores", spec := "fixCores", unfollowed := true, recurses := true, named := ["math/bits.deBruijn32tab", "math/bits.deBruijn64tab"], apart := false, laid := [("math/bits.deBruijn32tab", laid_math_bits_deBruijn32tab), ("math/bits.deBruijn64tab", laid_math_bits_deBruijn64tab)] }
def FixCoresSaid : Prop := fixCoresRow.holds Tryd.pinned (OpenSpec.ofChange fixCoresSpec)

/-- ITS FALSE NEIGHBOUR: 'it returns false'. Refute it at one input. -/
def fixCoresWrong : ChangeSpec := { name := "fixCores", fn := fun _ => fun
  | [d] => { results := [.lit (.bool false)], args := [d] }
  | _ => none }
def FixCoresWrongFalsely : Prop := fixCoresRow.holds Tryd.pinned (OpenSpec.ofChange fixCoresWrong)

/-- 'hasselaw.FixEnds': WHATEVER THE INPUT: true; the input reads as it did. -/
def fixEndsSpec : ChangeSpec := { name := "fixEnds", fn := fun _ => fun
  | [d1, d2] => { results := [.lit (.bool true)], args := [d1, d2] }
  | _ => none }
def fixEndsRow : OpenClaim := { program := "ytlihpalpkdgclaadoor", sum := "83e44536d9570ba1939589c074f47c4ce4fc408957d318f2986f141293ce4cdf", func := "hasse/hasselaw.FixEnds", spec := "fixEnds", unfollowed := true, recurses := true, named := ["math/bits.deBruijn32tab", "math/bits.deBruijn64tab"], apart := false, laid := [("math/bits.deBruijn32tab", laid_math_bits_deBruijn32tab), ("math/bits.deBruijn64tab", laid_math_bits_deBruijn64tab)] }
def FixEndsSaid : Prop := fixEndsRow.holds Tryd.pinned (OpenSpec.ofChange fixEndsSpec)

/-- ITS FALSE NEIGHBOUR: 'it returns false'. Refute it at one input. -/
def fixEndsWrong : ChangeSpec := { name := "fixEnds", fn := fun _ => fun
  | [d1, d2] => { results := [.lit (.bool false)], args := [d1, d2] }
  | _ => none }
def FixEndsWrongFalsely : Prop := fixEndsRow.holds Tryd.pinned (OpenSpec.ofChange fixEndsWrong)

/-- 'hasselaw.FixAlways': WHATEVER THE INPUT: true; the input reads as it did. -/
def fixAlwaysSpec : ChangeSpec := { name := "fixAlways", fn := fun _ => fun
  | [d] => { results := [.lit (.bool true)], args := [d] }
  | _ => none }
def fixAlwaysRow : OpenClaim := { program := "ytlihpalpkdgclaadoor", sum := "83e44536d9570ba1939589c074f47c4ce4fc408957d318f2986f141293ce4cdf", func := "hasse/hasselaw.FixAlways", spec := "fixAlways", unfollowed := true, recurses := true, named := ["math/bits.deBruijn32tab", "math/bits.deBruijn64tab"], apart := false, laid := [("math/bits.deBruijn32tab", laid_math_bits_deBruijn32tab), ("math/bits.deBruijn64tab", laid_math_bits_deBruijn64tab)] }
def FixAlwaysSaid : Prop := fixAlwaysRow.holds Tryd.pinned (OpenSpec.ofChange fixAlwaysSpec)

/-- ITS FALSE NEIGHBOUR: 'it returns false'. Refute it at one input. -/
def fixAlwaysWrong : ChangeSpec := { name := "fixAlways", fn := fun _ => fun
  | [d] => { results := [.lit (.bool false)], args := [d] }
  | _ => none }
def FixAlwaysWrongFalsely : Prop := fixAlwaysRow.holds Tryd.pinned (OpenSpec.ofChange fixAlwaysWrong)

/-- 'hasselaw.FixTarski': WHATEVER THE INPUT: true; the input reads as it did. -/
def fixTarskiSpec : ChangeSpec := { name := "fixTarski", fn := fun _ => fun
  | [d1, d2] => { results := [.lit (.bool true)], args := [d1, d2] }
  | _ => none }
def fixTarskiRow : OpenClaim := { program := "ytlihpalpkdgclaadoor", sum := "83e44536d9570ba1939589c074f47c4ce4fc408957d318f2986f141293ce4cdf", func := "hasse/hasselaw.FixTarski", spec := "fixTarski", unfollowed := true, recurses := true, named := ["math/bits.deBruijn32tab", "math/bits.deBruijn64tab"], apart := false, laid := [("math/bits.deBruijn32tab", laid_math_bits_deBruijn32tab), ("math/bits.deBruijn64tab", laid_math_bits_deBruijn64tab)] }
def FixTarskiSaid : Prop := fixTarskiRow.holds Tryd.pinned (OpenSpec.ofChange fixTarskiSpec)

/-- ITS FALSE NEIGHBOUR: 'it returns false'. Refute it at one input. -/
def fixTarskiWrong : ChangeSpec := { name := "fixTarski", fn := fun _ => fun
  | [d1, d2] => { results := [.lit (.bool false)], args := [d1, d2] }
  | _ => none }
def FixTarskiWrongFalsely : Prop := fixTarskiRow.holds Tryd.pinned (OpenSpec.ofChange fixTarskiWrong)

/-- 'hasselaw.FixAbian': WHATEVER THE INPUT: true; the input reads as it did. -/
def fixAbianSpec : ChangeSpec := { name := "fixAbian", fn := fun _ => fun
  | [d1, d2] => { results := [.lit (.bool true)], args := [d1, d2] }
  | _ => none }
def fixAbianRow : OpenClaim := { program := "ytlihpalpkdgclaadoor", sum := "83e44536d9570ba1939589c074f47c4ce4fc408957d318f2986f141293ce4cdf", func := "hasse/hasselaw.FixAbian", spec := "fixAbian", unfollowed := true, recurses := true, named := ["math/bits.deBruijn32tab", "math/bits.deBruijn64tab"], apart := false, laid := [("math/bits.deBruijn32tab", laid_math_bits_deBruijn32tab), ("math/bits.deBruijn64tab", laid_math_bits_deBruijn64tab)] }
def FixAbianSaid : Prop := fixAbianRow.holds Tryd.pinned (OpenSpec.ofChange fixAbianSpec)

/-- ITS FALSE NEIGHBOUR: 'it returns false'. Refute it at one input. -/
def fixAbianWrong : ChangeSpec := { name := "fixAbian", fn := fun _ => fun
  | [d1, d2] => { results := [.lit (.bool false)], args := [d1, d2] }
  | _ => none }
def FixAbianWrongFalsely : Prop := fixAbianRow.holds Tryd.pinned (OpenSpec.ofChange fixAbianWrong)

/-- 'hasselaw.FixRival': WHATEVER THE INPUT: true; the input reads as it did. -/
def fixRivalSpec : ChangeSpec := { name := "fixRival", fn := fun _ => fun
  | [d1, d2] => { results := [.lit (.bool true)], args := [d1, d2] }
  | _ => none }
def fixRivalRow : OpenClaim := { program := "ytlihpalpkdgclaadoor", sum := "83e44536d9570ba1939589c074f47c4ce4fc408957d318f2986f141293ce4cdf", func := "hasse/hasselaw.FixRival", spec := "fixRival", unfollowed := true, recurses := true, named := ["math/bits.deBruijn32tab", "math/bits.deBruijn64tab"], apart := false, laid := [("math/bits.deBruijn32tab", laid_math_bits_deBruijn32tab), ("math/bits.deBruijn64tab", laid_math_bits_deBruijn64tab)] }
def FixRivalSaid : Prop := fixRivalRow.holds Tryd.pinned (OpenSpec.ofChange fixRivalSpec)

/-- ITS FALSE NEIGHBOUR: 'it returns false'. Refute it at one input. -/
def fixRivalWrong : ChangeSpec := { name := "fixRival", fn := fun _ => fun
  | [d1, d2] => { results := [.lit (.bool false)], args := [d1, d2] }
  | _ => none }
def FixRivalWrongFalsely : Prop := fixRivalRow.holds Tryd.pinned (OpenSpec.ofChange fixRivalWrong)

/- THE SECOND FORM. 'bulk': how many values and letters a reading holds, each counted each time it is reached (what is shared counts as often as it is met; a slice's spare places count too). A statement '..UptoSaid' is the law's where the arguments, and the package variables that the reading takes, are together of bulk at most 1048576: NARROWER than '..Said'. Prove '..Said' where nothing that the law and all that it calls make is longer than what came in: it says more and counts as full. Else prove '..UptoSaid'. A law counts once. -/
mutual
def uptoBulk {H : Type} : DataW H → Nat
  | .lit (.string bytes) => bytes.length + 1
  | .lit _ => 1
  | .nil => 1
  | .ptr d => uptoBulk d + 1
  | .slice elems spare => uptoBulkAll elems + uptoBulkAll spare + 1
  | .agg parts => uptoBulkAll parts + 1
  | .iface _ d => uptoBulk d + 1
  | .map entries => uptoBulkEntries entries + 1
  | .held _ => 1
def uptoBulkAll {H : Type} : List (DataW H) → Nat
  | [] => 0
  | d :: r => uptoBulk d + uptoBulkAll r
def uptoBulkEntries {H : Type} : List (Lit × DataW H) → Nat
  | [] => 0
  | x :: r => uptoBulkEntry x + uptoBulkEntries r
def uptoBulkEntry {H : Type} : Lit × DataW H → Nat
  | (.string bytes, d) => bytes.length + uptoBulk d + 1
  | (_, d) => uptoBulk d + 1
 end
def uptoSmall : (H : Type) → List (DataW H) → Bool := fun _ ds => decide (uptoBulkAll ds ≤ 1048576)
def OpenSpec.upto (s : _root_.Go.ChangeSpec) : _root_.Go.OpenSpec := { _root_.Go.OpenSpec.ofChange s with cond := some uptoSmall }

/-- 'hasselaw.ConvexMinkowski', WHERE WHAT IT READS IS OF BULK AT MOST 1048576: true; the input reads as it did. -/
def convexMinkowskiUptoRow : OpenClaim := { program := "ytlihpalpkdgclaadoor", sum := "83e44536d9570ba1939589c074f47c4ce4fc408957d318f2986f141293ce4cdf", func := "hasse/hasselaw.ConvexMinkowski", spec := "convexMinkowski", named := ["math/bits.deBruijn32tab", "math/bits.deBruijn64tab"], apart := false, laid := [("math/bits.deBruijn32tab", laid_math_bits_deBruijn32tab), ("math/bits.deBruijn64tab", laid_math_bits_deBruijn64tab)], narrowed := true }
def ConvexMinkowskiUptoSaid : Prop := convexMinkowskiUptoRow.holds Tryd.pinned (OpenSpec.upto convexMinkowskiSpec)

/-- 'hasselaw.ConvexExchange', WHERE WHAT IT READS IS OF BULK AT MOST 1048576: true; the input reads as it did. -/
def convexExchangeUptoRow : OpenClaim := { program := "ytlihpalpkdgclaadoor", sum := "83e44536d9570ba1939589c074f47c4ce4fc408957d318f2986f141293ce4cdf", func := "hasse/hasselaw.ConvexExchange", spec := "convexExchange", named := ["math/bits.deBruijn32tab", "math/bits.deBruijn64tab"], apart := false, laid := [("math/bits.deBruijn32tab", laid_math_bits_deBruijn32tab), ("math/bits.deBruijn64tab", laid_math_bits_deBruijn64tab)], narrowed := true }
def ConvexExchangeUptoSaid : Prop := convexExchangeUptoRow.holds Tryd.pinned (OpenSpec.upto convexExchangeSpec)

/-- 'hasselaw.ConvexChecks', WHERE WHAT IT READS IS OF BULK AT MOST 1048576: true; the input reads as it did. -/
def convexChecksUptoRow : OpenClaim := { program := "ytlihpalpkdgclaadoor", sum := "83e44536d9570ba1939589c074f47c4ce4fc408957d318f2986f141293ce4cdf", func := "hasse/hasselaw.ConvexChecks", spec := "convexChecks", named := ["math/bits.deBruijn32tab", "math/bits.deBruijn64tab"], apart := false, laid := [("math/bits.deBruijn32tab", laid_math_bits_deBruijn32tab), ("math/bits.deBruijn64tab", laid_math_bits_deBruijn64tab)], narrowed := true }
def ConvexChecksUptoSaid : Prop := convexChecksUptoRow.holds Tryd.pinned (OpenSpec.upto convexChecksSpec)

/-- 'hasselaw.FixMonotone', WHERE WHAT IT READS IS OF BULK AT MOST 1048576: true; the input reads as it did. -/
def fixMonotoneUptoRow : OpenClaim := { program := "ytlihpalpkdgclaadoor", sum := "83e44536d9570ba1939589c074f47c4ce4fc408957d318f2986f141293ce4cdf", func := "hasse/hasselaw.FixMonotone", spec := "fixMonotone", unfollowed := true, recurses := true, named := ["math/bits.deBruijn32tab", "math/bits.deBruijn64tab"], apart := false, laid := [("math/bits.deBruijn32tab", laid_math_bits_deBruijn32tab), ("math/bits.deBruijn64tab", laid_math_bits_deBruijn64tab)], narrowed := true }
def FixMonotoneUptoSaid : Prop := fixMonotoneUptoRow.holds Tryd.pinned (OpenSpec.upto fixMonotoneSpec)

/-- 'hasselaw.FixCounts', WHERE WHAT IT READS IS OF BULK AT MOST 1048576: true; the input reads as it did. -/
def fixCountsUptoRow : OpenClaim := { program := "ytlihpalpkdgclaadoor", sum := "83e44536d9570ba1939589c074f47c4ce4fc408957d318f2986f141293ce4cdf", func := "hasse/hasselaw.FixCounts", spec := "fixCounts", unfollowed := true, recurses := true, named := ["math/bits.deBruijn32tab", "math/bits.deBruijn64tab"], apart := false, laid := [("math/bits.deBruijn32tab", laid_math_bits_deBruijn32tab), ("math/bits.deBruijn64tab", laid_math_bits_deBruijn64tab)], narrowed := true }
def FixCountsUptoSaid : Prop := fixCountsUptoRow.holds Tryd.pinned (OpenSpec.upto fixCountsSpec)

/-- 'hasselaw.FixFixed', WHERE WHAT IT READS IS OF BULK AT MOST 1048576: true; the input reads as it did. -/
def fixFixedUptoRow : OpenClaim := { program := "ytlihpalpkdgclaadoor", sum := "83e44536d9570ba1939589c074f47c4ce4fc408957d318f2986f141293ce4cdf", func := "hasse/hasselaw.FixFixed", spec := "fixFixed", unfollowed := true, recurses := true, named := ["math/bits.deBruijn32tab", "math/bits.deBruijn64tab"], apart := false, laid := [("math/bits.deBruijn32tab", laid_math_bits_deBruijn32tab), ("math/bits.deBruijn64tab", laid_math_bits_deBruijn64tab)], narrowed := true }
def FixFixedUptoSaid : Prop := fixFixedUptoRow.holds Tryd.pinned (OpenSpec.upto fixFixedSpec)

/-- 'hasselaw.FixCores', WHERE WHAT IT READS IS OF BULK AT MOST 1048576: true; the input reads as it did. -/
def fixCoresUptoRow : OpenClaim := { program := "ytlihpalpkdgclaadoor", sum := "83e44536d9570ba1939589c074f47c4ce4fc408957d318f2986f141293ce4cdf", func := "hasse/hasselaw.FixCores", spec := "fixCores", unfollowed := true, recurses := true, named := ["math/bits.deBruijn32tab", "math/bits.deBruijn64tab"], apart := false, laid := [("math/bits.deBruijn32tab", laid_math_bits_deBruijn32tab), ("math/bits.deBruijn64tab", laid_math_bits_deBruijn64tab)], narrowed := true }
def FixCoresUptoSaid : Prop := fixCoresUptoRow.holds Tryd.pinned (OpenSpec.upto fixCoresSpec)

/-- 'hasselaw.FixEnds', WHERE WHAT IT READS IS OF BULK AT MOST 1048576: true; the input reads as it did. -/
def fixEndsUptoRow : OpenClaim := { program := "ytlihpalpkdgclaadoor", sum := "83e44536d9570ba1939589c074f47c4ce4fc408957d318f2986f141293ce4cdf", func := "hasse/hasselaw.FixEnds", spec := "fixEnds", unfollowed := true, recurses := true, named := ["math/bits.deBruijn32tab", "math/bits.deBruijn64tab"], apart := false, laid := [("math/bits.deBruijn32tab", laid_math_bits_deBruijn32tab), ("math/bits.deBruijn64tab", laid_math_bits_deBruijn64tab)], narrowed := true }
def FixEndsUptoSaid : Prop := fixEndsUptoRow.holds Tryd.pinned (OpenSpec.upto fixEndsSpec)

/-- 'hasselaw.FixAlways', WHERE WHAT IT READS IS OF BULK AT MOST 1048576: true; the input reads as it did. -/
def fixAlwaysUptoRow : OpenClaim := { program := "ytlihpalpkdgclaadoor", sum := "83e44536d9570ba1939589c074f47c4ce4fc408957d318f2986f141293ce4cdf", func := "hasse/hasselaw.FixAlways", spec := "fixAlways", unfollowed := true, recurses := true, named := ["math/bits.deBruijn32tab", "math/bits.deBruijn64tab"], apart := false, laid := [("math/bits.deBruijn32tab", laid_math_bits_deBruijn32tab), ("math/bits.deBruijn64tab", laid_math_bits_deBruijn64tab)], narrowed := true }
def FixAlwaysUptoSaid : Prop := fixAlwaysUptoRow.holds Tryd.pinned (OpenSpec.upto fixAlwaysSpec)

/-- 'hasselaw.FixTarski', WHERE WHAT IT READS IS OF BULK AT MOST 1048576: true; the input reads as it did. -/
def fixTarskiUptoRow : OpenClaim := { program := "ytlihpalpkdgclaadoor", sum := "83e44536d9570ba1939589c074f47c4ce4fc408957d318f2986f141293ce4cdf", func := "hasse/hasselaw.FixTarski", spec := "fixTarski", unfollowed := true, recurses := true, named := ["math/bits.deBruijn32tab", "math/bits.deBruijn64tab"], apart := false, laid := [("math/bits.deBruijn32tab", laid_math_bits_deBruijn32tab), ("math/bits.deBruijn64tab", laid_math_bits_deBruijn64tab)], narrowed := true }
def FixTarskiUptoSaid : Prop := fixTarskiUptoRow.holds Tryd.pinned (OpenSpec.upto fixTarskiSpec)

/-- 'hasselaw.FixAbian', WHERE WHAT IT READS IS OF BULK AT MOST 1048576: true; the input reads as it did. -/
def fixAbianUptoRow : OpenClaim := { program := "ytlihpalpkdgclaadoor", sum := "83e44536d9570ba1939589c074f47c4ce4fc408957d318f2986f141293ce4cdf", func := "hasse/hasselaw.FixAbian", spec := "fixAbian", unfollowed := true, recurses := true, named := ["math/bits.deBruijn32tab", "math/bits.deBruijn64tab"], apart := false, laid := [("math/bits.deBruijn32tab", laid_math_bits_deBruijn32tab), ("math/bits.deBruijn64tab", laid_math_bits_deBruijn64tab)], narrowed := true }
def FixAbianUptoSaid : Prop := fixAbianUptoRow.holds Tryd.pinned (OpenSpec.upto fixAbianSpec)

/-- 'hasselaw.FixRival', WHERE WHAT IT READS IS OF BULK AT MOST 1048576: true; the input reads as it did. -/
def fixRivalUptoRow : OpenClaim := { program := "ytlihpalpkdgclaadoor", sum := "83e44536d9570ba1939589c074f47c4ce4fc408957d318f2986f141293ce4cdf", func := "hasse/hasselaw.FixRival", spec := "fixRival", unfollowed := true, recurses := true, named := ["math/bits.deBruijn32tab", "math/bits.deBruijn64tab"], apart := false, laid := [("math/bits.deBruijn32tab", laid_math_bits_deBruijn32tab), ("math/bits.deBruijn64tab", laid_math_bits_deBruijn64tab)], narrowed := true }
def FixRivalUptoSaid : Prop := fixRivalUptoRow.holds Tryd.pinned (OpenSpec.upto fixRivalSpec)

end Rows
end Go.Proofs.YtlihpalpkdgclaaDoor
