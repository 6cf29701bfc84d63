/-
  NARROWER THAN 'FOR EVERY INPUT', by the rows' own cells (each row's printed sentence says how): LatticeChecks: laid · LatticeTables: laid · LatticeDistributive: laid · LatticeModular: laid · LatticePentagon: laid · LatticeDiamond: laid · LatticeDedekind: laid · LatticeOthers: laid · LatticeOne: laid · LatticeOrders: laid · LatticeBirkhoff: laid · LatticeBack: laid.
  DERIVED. THE GIVEN ROWS OF THIS SEAT. 12 by the template 'for every input the law returns true; each argument reads behind the call as it read before'; 0 by the template 'total and deterministic' (their statements: YtjpjmcfhhjdkpaaDoorTotals.lean).
  GIVEN WITH THE SEED: the statements are not yours to turn. If you find one false, say at which input.
  Laid BY PROGRAM, IN A SANDBOX (cutbox-rows.mjs): the forced cells as the released guide's own fill.sh prints them over the translation 69bdd9b21d418a00… (all of the seat's roots in one cut). By AI agents, Wed Nov 11 2026. No macro, syntax, notation, axiom, sorry.
-/
import Derived.Test.YtjpjmcfhhjdkpaaDoorChecked
import GoSem.Claim
import GoSem.ClaimJoined
import GoSem.ClaimMapViews
import Derived.JoinedTies
import Derived.KernelRfl
namespace Go.Proofs.YtjpjmcfhhjdkpaaDoor
/- THE CELL 'sum', in the pinned program and in every row, IS THE sha256 OF THE DUMP (.gsa) THAT YtjpjmcfhhjdkpaaDoorProg.lean LOADS. Nothing in Lean hashes anything: it is a label: what it is worth is what the hold of that sum in a sandbox is worth. -/
noncomputable def Tryd.pinned : Pinned := { name := "ytjpjmcfhhjdkpaadoor", sum := "69bdd9b21d418a009a8533e4b502373e39444b2270b872c747a8c2390a1b78bd", checked := Tryd.checked }
namespace Rows
def none {H : Type} : Left H := { results := [], args := [] }

/- WHAT THE LISTED PACKAGE-LEVEL VARIABLES READ AS WHEN THE CALL BEGINS. Each datum BY PROGRAM (the guide's laid-datum.mjs) off the statement by which the dump's own 'gosem.cut.vars' lays the variable. In a bare row this is a premise. The card (YtjpjmcfhhjdkpaaDoorCards.lean) ties it to the program's text. -/
def laid_math_bits_deBruijn32tab {H : Type} : DataW H := .agg [.lit (.int .u8 0), .lit (.int .u8 1), .lit (.int .u8 28), .lit (.int .u8 2), .lit (.int .u8 29), .lit (.int .u8 14), .lit (.int .u8 24), .lit (.int .u8 3), .lit (.int .u8 30), .lit (.int .u8 22), .lit (.int .u8 20), .lit (.int .u8 15), .lit (.int .u8 25), .lit (.int .u8 17), .lit (.int .u8 4), .lit (.int .u8 8), .lit (.int .u8 31), .lit (.int .u8 27), .lit (.int .u8 13), .lit (.int .u8 23), .lit (.int .u8 21), .lit (.int .u8 19), .lit (.int .u8 16), .lit (.int .u8 7), .lit (.int .u8 26), .lit (.int .u8 12), .lit (.int .u8 18), .lit (.int .u8 6), .lit (.int .u8 11), .lit (.int .u8 5), .lit (.int .u8 10), .lit (.int .u8 9)]
def laid_math_bits_deBruijn64tab {H : Type} : DataW H := .agg [.lit (.int .u8 0), .lit (.int .u8 1), .lit (.int .u8 56), .lit (.int .u8 2), .lit (.int .u8 57), .lit (.int .u8 49), .lit (.int .u8 28), .lit (.int .u8 3), .lit (.int .u8 61), .lit (.int .u8 58), .lit (.int .u8 42), .lit (.int .u8 50), .lit (.int .u8 38), .lit (.int .u8 29), .lit (.int .u8 17), .lit (.int .u8 4), .lit (.int .u8 62), .lit (.int .u8 47), .lit (.int .u8 59), .lit (.int .u8 36), .lit (.int .u8 45), .lit (.int .u8 43), .lit (.int .u8 51), .lit (.int .u8 22), .lit (.int .u8 53), .lit (.int .u8 39), .lit (.int .u8 33), .lit (.int .u8 30), .lit (.int .u8 24), .lit (.int .u8 18), .lit (.int .u8 12), .lit (.int .u8 5), .lit (.int .u8 63), .lit (.int .u8 55), .lit (.int .u8 48), .lit (.int .u8 27), .lit (.int .u8 60), .lit (.int .u8 41), .lit (.int .u8 37), .lit (.int .u8 16), .lit (.int .u8 46), .lit (.int .u8 35), .lit (.int .u8 44), .lit (.int .u8 21), .lit (.int .u8 52), .lit (.int .u8 32), .lit (.int .u8 23), .lit (.int .u8 11), .lit (.int .u8 54), .lit (.int .u8 26), .lit (.int .u8 40), .lit (.int .u8 15), .lit (.int .u8 34), .lit (.int .u8 20), .lit (.int .u8 31), .lit (.int .u8 10), .lit (.int .u8 25), .lit (.int .u8 14), .lit (.int .u8 19), .lit (.int .u8 9), .lit (.int .u8 13), .lit (.int .u8 8), .lit (.int .u8 7), .lit (.int .u8 6)]

/-- 'hasselaw.LatticeChecks': WHATEVER THE INPUT: true; the input reads as it did. -/
def latticeChecksSpec : ChangeSpec := { name := "latticeChecks", fn := fun _ => fun
  | [d] => { results := [.lit (.bool true)], args := [d] }
  | _ => none }
def latticeChecksRow : OpenClaim := { program := "ytjpjmcfhhjdkpaadoor", sum := "69bdd9b21d418a009a8533e4b502373e39444b2270b872c747a8c2390a1b78bd", func := "hasse/hasselaw.LatticeChecks", spec := "latticeChecks", unfollowed := true, recurses := true, named := ["math/bits.deBruijn32tab", "math/bits.deBruijn64tab"], apart := false, laid := [("math/bits.deBruijn32tab", laid_math_bits_deBruijn32tab), ("math/bits.deBruijn64tab", laid_math_bits_deBruijn64tab)] }
def LatticeChecksSaid : Prop := latticeChecksRow.holds Tryd.pinned (OpenSpec.ofChange latticeChecksSpec)

/-- ITS FALSE NEIGHBOUR: 'it returns false'. Refute it at one input. -/
def latticeChecksWrong : ChangeSpec := { name := "latticeChecks", fn := fun _ => fun
  | [d] => { results := [.lit (.bool false)], args := [d] }
  | _ => none }
def LatticeChecksWrongFalsely : Prop := latticeChecksRow.holds Tryd.pinned (OpenSpec.ofChange latticeChecksWrong)

/-- 'hasselaw.LatticeTables': WHATEVER THE INPUT: true; the input reads as it did. -/
def latticeTablesSpec : ChangeSpec := { name := "latticeTables", fn := fun _ => fun
  | [d] => { results := [.lit (.bool true)], args := [d] }
  | _ => none }
def latticeTablesRow : OpenClaim := { program := "ytjpjmcfhhjdkpaadoor", sum := "69bdd9b21d418a009a8533e4b502373e39444b2270b872c747a8c2390a1b78bd", func := "hasse/hasselaw.LatticeTables", spec := "latticeTables", unfollowed := true, recurses := true, named := ["math/bits.deBruijn32tab", "math/bits.deBruijn64tab"], apart := false, laid := [("math/bits.deBruijn32tab", laid_math_bits_deBruijn32tab), ("math/bits.deBruijn64tab", laid_math_bits_deBruijn64tab)] }
def LatticeTablesSaid : Prop := latticeTablesRow.holds Tryd.pinned (OpenSpec.ofChange latticeTablesSpec)

/-- ITS FALSE NEIGHBOUR: 'it returns false'. Refute it at one input. -/
def latticeTablesWrong : ChangeSpec := { name := "latticeTables", fn := fun _ => fun
  | [d] => { results := [.lit (.bool false)], args := [d] }
  | _ => none }
def LatticeTablesWrongFalsely : Prop := latticeTablesRow.holds Tryd.pinned (OpenSpec.ofChange latticeTablesWrong)

/-- 'hasselaw.LatticeDistributive': WHATEVER THE INPUT: true; the input reads as it did. -/
def latticeDistributiveSpec : ChangeSpec := { name := "latticeDistributive", fn := fun _ => fun
  | [d] => { results := [.lit (.bool true)], args := [d] }
  | _ => none }
def latticeDistributiveRow : OpenClaim := { program := "ytjpjmcfhhjdkpaadoor", sum := "69bdd9b21d418a009a8533e4b502373e39444b2270b872c747a8c2390a1b78bd", func := "hasse/hasselaw.LatticeDistributive", spec := "latticeDistributive", unfollowed := true, recurses := true, named := ["math/bits.deBruijn32tab", "math/bits.deBruijn64tab"], apart := false, laid := [("math/bits.deBruijn32tab", laid_math_bits_deBruijn32tab), ("math/bits.deBruijn64tab", laid_math_bits_deBruijn64tab)] }
def LatticeDistributiveSaid : Prop := latticeDistributiveRow.holds Tryd.pinned (OpenSpec.ofChange latticeDistributiveSpec)

/-- ITS FALSE NEIGHBOUR: 'it returns false'. Refute it at one input. -/
def latticeDistributiveWrong : ChangeSpec := { name := "latticeDistributive", fn := fun _ => fun
  | [d] => { results := [.lit (.bool false)], args := [d] }
  | _ => none }
def LatticeDistributiveWrongFalsely : Prop := latticeDistributiveRow.holds Tryd.pinned (OpenSpec.ofChange latticeDistributiveWrong)

/-- 'hasselaw.LatticeModular': WHATEVER THE INPUT: true; the input reads as it did. -/
def latticeModularSpec : ChangeSpec := { name := "latticeModular", fn := fun _ => fun
  | [d] => { results := [.lit (.bool true)], args := [d] }
  | _ => none }
def latticeModularRow : OpenClaim := { program := "ytjpjmcfhhjdkpaadoor", sum := "69bdd9b21d418a009a8533e4b502373e39444b2270b872c747a8c2390a1b78bd", func := "hasse/hasselaw.LatticeModular", spec := "latticeModular", unfollowed := true, recurses := true, named := ["math/bits.deBruijn32tab", "math/bits.deBruijn64tab"], apart := false, laid := [("math/bits.deBruijn32tab", laid_math_bits_deBruijn32tab), ("math/bits.deBruijn64tab", laid_math_bits_deBruijn64tab)] }
def LatticeModularSaid : Prop := latticeModularRow.holds Tryd.pinned (OpenSpec.ofChange latticeModularSpec)

/-- ITS FALSE NEIGHBOUR: 'it returns false'. Refute it at one input. -/
def latticeModularWrong : ChangeSpec := { name := "latticeModular", fn := fun _ => fun
  | [d] => { results := [.lit (.bool false)], args := [d] }
  | _ => none }
def LatticeModularWrongFalsely : Prop := latticeModularRow.holds Tryd.pinned (OpenSpec.ofChange latticeModularWrong)

/-- 'hasselaw.LatticePentagon': WHATEVER THE INPUT: true; the input reads as it did. -/
def latticePentagonSpec : ChangeSpec := { name := "latticePentagon", fn := fun _ => fun
  | [d] => { results := [.lit (.bool true)], args := [d] }
  | _ => none }
def latticePentagonRow : OpenClaim := { program := "ytjpjmcfhhjdkpaadoor", sum := "69bdd9b21d418a009a8533e4b502373e39444b2270b872c747a8c2390a1b78bd", func := "hasse/hasselaw.LatticePentagon", spec := "latticePentagon", unfollowed := true, recurses := true, named := ["math/bits.deBruijn32tab", "math/bits.deBruijn64tab"], apart := false, laid := [("math/bits.deBruijn32tab", laid_math_bits_deBruijn32tab), ("math/bits.deBruijn64tab", laid_math_bits_deBruijn64tab)] }
def LatticePentagonSaid : Prop := latticePentagonRow.holds Tryd.pinned (OpenSpec.ofChange latticePentagonSpec)

/-- ITS FALSE NEIGHBOUR: 'it returns false'. Refute it at one input. -/
def latticePentagonWrong : ChangeSpec := { name := "latticePentagon", fn := fun _ => fun
  | [d] => { results := [.lit (.bool false)], args := [d] }
  | _ => none }
def LatticePentagonWrongFalsely : Prop := latticePentagonRow.holds Tryd.pinned (OpenSpec.ofChange latticePentagonWrong)

/-- 'hasselaw.LatticeDiamond': WHATEVER THE INPUT: true; the input reads as it did. -/
def latticeDiamondSpec : ChangeSpec := { name := "latticeDiamond", fn := fun _ => fun
  | [d] => { results := [.lit (.bool true)], args := [d] }
  | _ => none }
def latticeDiamondRow : OpenClaim := { program := "ytjpjmcfhhjdkpaadoor", sum := "69bdd9b21d418a009a8533e4b502373e39444b2270b872c747a8c2390a1b78bd", func := "hasse/hasselaw.LatticeDiamond", spec := "latticeDiamond", unfollowed := true, recurses := true, named := ["math/bits.deBruijn32tab", "math/bits.deBruijn64tab"], apart := false, laid := [("math/bits.deBruijn32tab", laid_math_bits_deBruijn32tab), ("math/bits.deBruijn64tab", laid_math_bits_deBruijn64tab)] }
def LatticeDiamondSaid : Prop := latticeDiamondRow.holds Tryd.pinned (OpenSpec.ofChange latticeDiamondSpec)

/-- ITS FALSE NEIGHBOUR: 'it returns false'. Refute it at one input. -/
def latticeDiamondWrong : ChangeSpec := { name := "latticeDiamond", fn := fun _ => fun
  | [d] => { results := [.lit (.bool false)], args := [d] }
  | _ => none }
def LatticeDiamondWrongFalsely : Prop := latticeDiamondRow.holds Tryd.pinned (OpenSpec.ofChange latticeDiamondWrong)

/-- 'hasselaw.LatticeDedekind': WHATEVER THE INPUT: true; the input reads as it did. -/
def latticeDedekindSpec : ChangeSpec := { name := "latticeDedekind", fn := fun _ => fun
  | [d] => { results := [.lit (.bool true)], args := [d] }
  | _ => none }
def latticeDedekindRow : OpenClaim := { program := "ytjpjmcfhhjdkpaadoor", sum := "69bdd9b21d418a009a8533e4b502373e39444b2270b872c747a8c2390a1b78bd", func := "hasse/hasselaw.LatticeDedekind", spec := "latticeDedekind", unfollowed := true, recurses := true, named := ["math/bits.deBruijn32tab", "math/bits.deBruijn64tab"], apart := false, laid := [("math/bits.deBruijn32tab", laid_math_bits_deBruijn32tab), ("math/bits.deBruijn64tab", laid_math_bits_deBruijn64tab)] }
def LatticeDedekindSaid : Prop := latticeDedekindRow.holds Tryd.pinned (OpenSpec.ofChange latticeDedekindSpec)

/-- ITS FALSE NEIGHBOUR: 'it returns false'. Refute it at one input. -/
def latticeDedekindWrong : ChangeSpec := { name := "latticeDedekind", fn := fun _ => fun
  | [d] => { results := [.lit (.bool false)], args := [d] }
  | _ => none }
def LatticeDedekindWrongFalsely : Prop := latticeDedekindRow.holds Tryd.pinned (OpenSpec.ofChange latticeDedekindWrong)

/-- 'hasselaw.LatticeOthers': WHATEVER THE INPUT: true; the input reads as it did. -/
def latticeOthersSpec : ChangeSpec := { name := "latticeOthers", fn := fun _ => fun
  | [d1, d2] => { results := [.lit (.bool true)], args := [d1, d2] }
  | _ => none }
def latticeOthersRow : OpenClaim := { program := "ytjpjmcfhhjdkpaadoor", sum := "69bdd9b21d418a009a8533e4b502373e39444b2270b872c747a8c2390a1b78bd", func := "hasse/hasselaw.LatticeOthers", spec := "latticeOthers", unfollowed := true, recurses := true, named := ["math/bits.deBruijn32tab", "math/bits.deBruijn64tab"], apart := false, laid := [("math/bits.deBruijn32tab", laid_math_bits_deBruijn32tab), ("math/bits.deBruijn64tab", laid_math_bits_deBruijn64tab)] }
def LatticeOthersSaid : Prop := latticeOthersRow.holds Tryd.pinned (OpenSpec.ofChange latticeOthersSpec)

/-- ITS FALSE NEIGHBOUR: 'it returns false'. Refute it at one input. -/
def latticeOthersWrong : ChangeSpec := { name := "latticeOthers", fn := fun _ => fun
  | [d1, d2] => { results := [.lit (.bool false)], args := [d1, d2] }
  | _ => none }
def LatticeOthersWrongFalsely : Prop := latticeOthersRow.holds Tryd.pinned (OpenSpec.ofChange latticeOthersWrong)

/-- 'hasselaw.LatticeOne': WHATEVER THE INPUT: true; the input reads as it did. -/
def latticeOneSpec : ChangeSpec := { name := "latticeOne", fn := fun _ => fun
  | [d1, d2] => { results := [.lit (.bool true)], args := [d1, d2] }
  | _ => none }
def latticeOneRow : OpenClaim := { program := "ytjpjmcfhhjdkpaadoor", sum := "69bdd9b21d418a009a8533e4b502373e39444b2270b872c747a8c2390a1b78bd", func := "hasse/hasselaw.LatticeOne", spec := "latticeOne", unfollowed := true, recurses := true, named := ["math/bits.deBruijn32tab", "math/bits.deBruijn64tab"], apart := false, laid := [("math/bits.deBruijn32tab", laid_math_bits_deBruijn32tab), ("math/bits.deBruijn64tab", laid_math_bits_deBruijn64tab)] }
def LatticeOneSaid : Prop := latticeOneRow.holds Tryd.pinned (OpenSpec.ofChange latticeOneSpec)

/-- ITS FALSE NEIGHBOUR: 'it returns false'. Refute it at one input. -/
def latticeOneWrong : ChangeSpec := { name := "latticeOne", fn := fun _ => fun
  | [d1, d2] => { results := [.lit (.bool false)], args := [d1, d2] }
  | _ => none }
def LatticeOneWrongFalsely : Prop := latticeOneRow.holds Tryd.pinned (OpenSpec.ofChange latticeOneWrong)

/-- 'hasselaw.LatticeOrders': WHATEVER THE INPUT: true; the input reads as it did. -/
def latticeOrdersSpec : ChangeSpec := { name := "latticeOrders", fn := fun _ => fun
  | [d] => { results := [.lit (.bool true)], args := [d] }
  | _ => none }
def latticeOrdersRow : OpenClaim := { program := "ytjpjmcfhhjdkpaadoor", sum := "69bdd9b21d418a009a8533e4b502373e39444b2270b872c747a8c2390a1b78bd", func := "hasse/hasselaw.LatticeOrders", spec := "latticeOrders", unfollowed := true, recurses := true, named := ["math/bits.deBruijn32tab", "math/bits.deBruijn64tab"], apart := false, laid := [("math/bits.deBruijn32tab", laid_math_bits_deBruijn32tab), ("math/bits.deBruijn64tab", laid_math_bits_deBruijn64tab)] }
def LatticeOrdersSaid : Prop := latticeOrdersRow.holds Tryd.pinned (OpenSpec.ofChange latticeOrdersSpec)

/-- ITS FALSE NEIGHBOUR: 'it returns false'. Refute it at one input. -/
def latticeOrdersWrong : ChangeSpec := { name := "latticeOrders", fn := fun _ => fun
  | [d] => { results := [.lit (.bool false)], args := [d] }
  | _ => none }
def LatticeOrdersWrongFalsely : Prop := latticeOrdersRow.holds Tryd.pinned (OpenSpec.ofChange latticeOrdersWrong)

/-- 'hasselaw.LatticeBirkhoff': WHATEVER THE INPUT: true; the input reads as it did. -/
def latticeBirkhoffSpec : ChangeSpec := { name := "latticeBirkhoff", fn := fun _ => fun
  | [d] => { results := [.lit (.bool true)], args := [d] }
  | _ => none }
def latticeBirkhoffRow : OpenClaim := { program := "ytjpjmcfhhjdkpaadoor", sum := "69bdd9b21d418a009a8533e4b502373e39444b2270b872c747a8c2390a1b78bd", func := "hasse/hasselaw.LatticeBirkhoff", spec := "latticeBirkhoff", unfollowed := true, recurses := true, named := ["math/bits.deBruijn32tab", "math/bits.deBruijn64tab"], apart := false, laid := [("math/bits.deBruijn32tab", laid_math_bits_deBruijn32tab), ("math/bits.deBruijn64tab", laid_math_bits_deBruijn64tab)] }
def LatticeBirkhoffSaid : Prop := latticeBirkhoffRow.holds Tryd.pinned (OpenSpec.ofChange latticeBirkhoffSpec)

/-- ITS FALSE NEIGHBOUR: 'it returns false'. Refute it at one input. -/
def latticeBirkhoffWrong : ChangeSpec := { name := "latticeBirkhoff", fn := fun _ => fun
  | [d] => { results := [.lit (.bool false)], args := [d] }
  | _ => none }
def LatticeBirkhoffWrongFalsely : Prop := latticeBirkhoffRow.holds Tryd.pinned (OpenSpec.ofChange latticeBirkhoffWrong)

/-- 'hasselaw.LatticeBack': WHATEVER THE INPUT: true; the input reads as it did. -/
def latticeBackSpec : ChangeSpec := { name := "latticeBack", fn := fun _ => fun
  | [d] => { results := [.lit (.bool true)], args := [d] }
  | _ => none }
def latticeBackRow : OpenClaim := { program := "ytjpjmcfhhjdkpaadoor", sum := "69bdd9b21d418a009a8533e4b502373e39444b2270b872c747a8c2390a1b78bd", func := "hasse/hasselaw.LatticeBack", spec := "latticeBack", unfollowed := true, recurses := true, named := ["math/bits.deBruijn32tab", "math/bits.deBruijn64tab"], apart := false, laid := [("math/bits.deBruijn32tab", laid_math_bits_deBruijn32tab), ("math/bits.deBruijn64tab", laid_math_bits_deBruijn64tab)] }
def LatticeBackSaid : Prop := latticeBackRow.holds Tryd.pinned (OpenSpec.ofChange latticeBackSpec)

/-- ITS FALSE NEIGHBOUR: 'it returns false'. Refute it at one input. -/
def latticeBackWrong : ChangeSpec := { name := "latticeBack", fn := fun _ => fun
  | [d] => { results := [.lit (.bool false)], args := [d] }
  | _ => none }
def LatticeBackWrongFalsely : Prop := latticeBackRow.holds Tryd.pinned (OpenSpec.ofChange latticeBackWrong)

/- THE SECOND FORM. 'bulk': how many values and letters a reading holds, each counted each time it is reached (what is shared counts as often as it is met; a slice's spare places count too). A statement '..UptoSaid' is the law's where the arguments, and the package variables that the reading takes, are together of bulk at most 1048576: NARROWER than '..Said'. Prove '..Said' where nothing that the law and all that it calls make is longer than what came in: it says more and counts as full. Else prove '..UptoSaid'. A law counts once. -/
mutual
def uptoBulk {H : Type} : DataW H → Nat
  | .lit (.string bytes) => bytes.length + 1
  | .lit _ => 1
  | .nil => 1
  | .ptr d => uptoBulk d + 1
  | .slice elems spare => uptoBulkAll elems + uptoBulkAll spare + 1
  | .agg parts => uptoBulkAll parts + 1
  | .iface _ d => uptoBulk d + 1
  | .map entries => uptoBulkEntries entries + 1
  | .held _ => 1
def uptoBulkAll {H : Type} : List (DataW H) → Nat
  | [] => 0
  | d :: r => uptoBulk d + uptoBulkAll r
def uptoBulkEntries {H : Type} : List (Lit × DataW H) → Nat
  | [] => 0
  | x :: r => uptoBulkEntry x + uptoBulkEntries r
def uptoBulkEntry {H : Type} : Lit × DataW H → Nat
  | (.string bytes, d) => bytes.length + uptoBulk d + 1
  | (_, d) => uptoBulk d + 1
 end
def uptoSmall : (H : Type) → List (DataW H) → Bool := fun _ ds => decide (uptoBulkAll ds ≤ 1048576)
def OpenSpec.upto (s : _root_.Go.ChangeSpec) : _root_.Go.OpenSpec := { _root_.Go.OpenSpec.ofChange s with cond := some uptoSmall }

/-- 'hasselaw.LatticeChecks', WHERE WHAT IT READS IS OF BULK AT MOST 1048576: true; the input reads as it did. -/
def latticeChecksUptoRow : OpenClaim := { program := "ytjpjmcfhhjdkpaadoor", sum := "69bdd9b21d418a009a8533e4b502373e39444b2270b872c747a8c2390a1b78bd", func := "hasse/hasselaw.LatticeChecks", spec := "latticeChecks", unfollowed := true, recurses := true, named := ["math/bits.deBruijn32tab", "math/bits.deBruijn64tab"], apart := false, laid := [("math/bits.deBruijn32tab", laid_math_bits_deBruijn32tab), ("math/bits.deBruijn64tab", laid_math_bits_deBruijn64tab)], narrowed := true }
def LatticeChecksUptoSaid : Prop := latticeChecksUptoRow.holds Tryd.pinned (OpenSpec.upto latticeChecksSpec)

/-- 'hasselaw.LatticeTables', WHERE WHAT IT READS IS OF BULK AT MOST 1048576: true; the input reads as it did. -/
def latticeTablesUptoRow : OpenClaim := { program := "ytjpjmcfhhjdkpaadoor", sum := "69bdd9b21d418a009a8533e4b502373e39444b2270b872c747a8c2390a1b78bd", func := "hasse/hasselaw.LatticeTables", spec := "latticeTables", unfollowed := true, recurses := true, named := ["math/bits.deBruijn32tab", "math/bits.deBruijn64tab"], apart := false, laid := [("math/bits.deBruijn32tab", laid_math_bits_deBruijn32tab), ("math/bits.deBruijn64tab", laid_math_bits_deBruijn64tab)], narrowed := true }
def LatticeTablesUptoSaid : Prop := latticeTablesUptoRow.holds Tryd.pinned (OpenSpec.upto latticeTablesSpec)

/-- 'hasselaw.LatticeDistributive', WHERE WHAT IT READS IS OF BULK AT MOST 1048576: true; the input reads as it did. -/
def latticeDistributiveUptoRow : OpenClaim := { program := "ytjpjmcfhhjdkpaadoor", sum := "69bdd9b21d418a009a8533e4b502373e39444b2270b872c747a8c2390a1b78bd", func := "hasse/hasselaw.LatticeDistributive", spec := "latticeDistributive", unfollowed := true, recurses := true, named := ["math/bits.deBruijn32tab", "math/bits.deBruijn64tab"], apart := false, laid := [("math/bits.deBruijn32tab", laid_math_bits_deBruijn32tab), ("math/bits.deBruijn64tab", laid_math_bits_deBruijn64tab)], narrowed := true }
def LatticeDistributiveUptoSaid : Prop := latticeDistributiveUptoRow.holds Tryd.pinned (OpenSpec.upto latticeDistributiveSpec)

/-- 'hasselaw.LatticeModular', WHERE WHAT IT READS IS OF BULK AT MOST 1048576: true; the input reads as it did. -/
def latticeModularUptoRow : OpenClaim := { program := "ytjpjmcfhhjdkpaadoor", sum := "69bdd9b21d418a009a8533e4b502373e39444b2270b872c747a8c2390a1b78bd", func := "hasse/hasselaw.LatticeModular", spec := "latticeModular", unfollowed := true, recurses := true, named := ["math/bits.deBruijn32tab", "math/bits.deBruijn64tab"], apart := false, laid := [("math/bits.deBruijn32tab", laid_math_bits_deBruijn32tab), ("math/bits.deBruijn64tab", laid_math_bits_deBruijn64tab)], narrowed := true }
def LatticeModularUptoSaid : Prop := latticeModularUptoRow.holds Tryd.pinned (OpenSpec.upto latticeModularSpec)

/-- 'hasselaw.LatticePentagon', WHERE WHAT IT READS IS OF BULK AT MOST 1048576: true; the input reads as it did. -/
def latticePentagonUptoRow : OpenClaim := { program := "ytjpjmcfhhjdkpaadoor", sum := "69bdd9b21d418a009a8533e4b502373e39444b2270b872c747a8c2390a1b78bd", func := "hasse/hasselaw.LatticePentagon", spec := "latticePentagon", unfollowed := true, recurses := true, named := ["math/bits.deBruijn32tab", "math/bits.deBruijn64tab"], apart := false, laid := [("math/bits.deBruijn32tab", laid_math_bits_deBruijn32tab), ("math/bits.deBruijn64tab", laid_math_bits_deBruijn64tab)], narrowed := true }
def LatticePentagonUptoSaid : Prop := latticePentagonUptoRow.holds Tryd.pinned (OpenSpec.upto latticePentagonSpec)

/-- 'hasselaw.LatticeDiamond', WHERE WHAT IT READS IS OF BULK AT MOST 1048576: true; the input reads as it did. -/
def latticeDiamondUptoRow : OpenClaim := { program := "ytjpjmcfhhjdkpaadoor", sum := "69bdd9b21d418a009a8533e4b502373e39444b2270b872c747a8c2390a1b78bd", func := "hasse/hasselaw.LatticeDiamond", spec := "latticeDiamond", unfollowed := true, recurses := true, named := ["math/bits.deBruijn32tab", "math/bits.deBruijn64tab"], apart := false, laid := [("math/bits.deBruijn32tab", laid_math_bits_deBruijn32tab), ("math/bits.deBruijn64tab", laid_math_bits_deBruijn64tab)], narrowed := true }
def LatticeDiamondUptoSaid : Prop := latticeDiamondUptoRow.holds Tryd.pinned (OpenSpec.upto latticeDiamondSpec)

/-- 'hasselaw.LatticeDedekind', WHERE WHAT IT READS IS OF BULK AT MOST 1048576: true; the input reads as it did. -/
def latticeDedekindUptoRow : OpenClaim := { program := "ytjpjmcfhhjdkpaadoor", sum := "69bdd9b21d418a009a8533e4b502373e39444b2270b872c747a8c2390a1b78bd", func := "hasse/hasselaw.LatticeDedekind", spec := "latticeDedekind", unfollowed := true, recurses := true, named := ["math/bits.deBruijn32tab", "math/bits.deBruijn64tab"], apart := false, laid := [("math/bits.deBruijn32tab", laid_math_bits_deBruijn32tab), ("math/bits.deBruijn64tab", laid_math_bits_deBruijn64tab)], narrowed := true }
def LatticeDedekindUptoSaid : Prop := latticeDedekindUptoRow.holds Tryd.pinned (OpenSpec.upto latticeDedekindSpec)

/-- 'hasselaw.LatticeOthers', WHERE WHAT IT READS IS OF BULK AT MOST 1048576: true; the input reads as it did. -/
def latticeOthersUptoRow : OpenClaim := { program := "ytjpjmcfhhjdkpaadoor", sum := "69bdd9b21d418a009a8533e4b502373e39444b2270b872c747a8c2390a1b78bd", func := "hasse/hasselaw.LatticeOthers", spec := "latticeOthers", unfollowed := true, recurses := true, named := ["math/bits.deBruijn32tab", "math/bits.deBruijn64tab"], apart := false, laid := [("math/bits.deBruijn32tab", laid_math_bits_deBruijn32tab), ("math/bits.deBruijn64tab", laid_math_bits_deBruijn64tab)], narrowed := true }
def LatticeOthersUptoSaid : Prop := latticeOthersUptoRow.holds Tryd.pinned (OpenSpec.upto latticeOthersSpec)

/-- 'hasselaw.LatticeOne', WHERE WHAT IT READS IS OF BULK AT MOST 1048576: true; the input reads as it did. -/
def latticeOneUptoRow : OpenClaim := { program := "ytjpjmcfhhjdkpaadoor", sum := "69bdd9b21d418a009a8533e4b502373e39444b2270b872c747a8c2390a1b78bd", func := "hasse/hasselaw.LatticeOne", spec := "latticeOne", unfollowed := true, recurses := true, named := ["math/bits.deBruijn32tab", "math/bits.deBruijn64tab"], apart := false, laid := [("math/bits.deBruijn32tab", laid_math_bits_deBruijn32tab), ("math/bits.deBruijn64tab", laid_math_bits_deBruijn64tab)], narrowed := true }
def LatticeOneUptoSaid : Prop := latticeOneUptoRow.holds Tryd.pinned (OpenSpec.upto latticeOneSpec)

/-- 'hasselaw.LatticeOrders', WHERE WHAT IT READS IS OF BULK AT MOST 1048576: true; the input reads as it did. -/
def latticeOrdersUptoRow : OpenClaim := { program := "ytjpjmcfhhjdkpaadoor", sum := "69bdd9b21d418a009a8533e4b502373e39444b2270b872c747a8c2390a1b78bd", func := "hasse/hasselaw.LatticeOrders", spec := "latticeOrders", unfollowed := true, recurses := true, named := ["math/bits.deBruijn32tab", "math/bits.deBruijn64tab"], apart := false, laid := [("math/bits.deBruijn32tab", laid_math_bits_deBruijn32tab), ("math/bits.deBruijn64tab", laid_math_bits_deBruijn64tab)], narrowed := true }
def LatticeOrdersUptoSaid : Prop := latticeOrdersUptoRow.holds Tryd.pinned (OpenSpec.upto latticeOrdersSpec)

/-- 'hasselaw.LatticeBirkhoff', WHERE WHAT IT READS IS OF BULK AT MOST 1048576: true; the input reads as it did. -/
def latticeBirkhoffUptoRow : OpenClaim := { program := "ytjpjmcfhhjdkpaadoor", sum := "69bdd9b21d418a009a8533e4b502373e39444b2270b872c747a8c2390a1b78bd", func := "hasse/hasselaw.LatticeBirkhoff", spec := "latticeBirkhoff", unfollowed := true, recurses := true, named := ["math/bits.deBruijn32tab", "math/bits.deBruijn64tab"], apart := false, laid := [("math/bits.deBruijn32tab", laid_math_bits_deBruijn32tab), ("math/bits.deBruijn64tab", laid_math_bits_deBruijn64tab)], narrowed := true }
def LatticeBirkhoffUptoSaid : Prop := latticeBirkhoffUptoRow.holds Tryd.pinned (OpenSpec.upto latticeBirkhoffSpec)

/-- 'hasselaw.LatticeBack', WHERE WHAT IT READS IS OF BULK AT MOST 1048576: true; the input reads as it did. -/
def latticeBackUptoRow : OpenClaim := { program := "ytjpjmcfhhjdkpaadoor", sum := "69bdd9b21d418a009a8533e4b502373e39444b2270b872c747a8c2390a1b78bd", func := "hasse/hasselaw.LatticeBack", spec := "latticeBack", unfollowed := true, recurses := true, named := ["math/bits.deBruijn32tab", "math/bits.deBruijn64tab"], apart := false, laid := [("math/bits.deBruijn32tab", laid_math_bits_deBruijn32tab), ("math/bits.deBruijn64tab", laid_math_bits_deBruijn64tab)], narrowed := true }
def LatticeBackUptoSaid : Prop := latticeBackUptoRow.holds Tryd.pinned (OpenSpec.upto latticeBackSpec)

end Rows
end Go.Proofs.YtjpjmcfhhjdkpaaDoor
