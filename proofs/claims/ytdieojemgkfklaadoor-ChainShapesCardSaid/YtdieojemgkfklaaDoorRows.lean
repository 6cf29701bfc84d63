/-
  NARROWER THAN 'FOR EVERY INPUT', by the rows' own cells (each row's printed sentence says how): LatticeBack: laid · LatticeBirkhoff: laid · CompleteKeeps: laid · CompleteDense: laid · CompleteNothing: laid · ChainWidest: laid · ChainParts: laid · ChainDilworth: laid · ChainShapes: laid · FixCounts: laid · FixCores: laid · FixEnds: laid.
  DERIVED. THE GIVEN ROWS OF THIS SEAT. 12 by the template 'for every input the law returns true; each argument reads behind the call as it read before'; 0 by the template 'total and deterministic' (their statements: YtdieojemgkfklaaDoorTotals.lean).
  GIVEN WITH THE SEED: the statements are not yours to turn. If you find one false, say at which input.
  Laid BY PROGRAM, IN A SANDBOX (cutbox-rows.mjs): the forced cells as the released guide's own fill.sh prints them over the translation c8a3bb3ef7963d9f… (all of the seat's roots in one cut). By AI agents, Wed Nov 11 2026. No macro, syntax, notation, axiom, sorry.
-/
import Derived.Test.YtdieojemgkfklaaDoorChecked
import GoSem.Claim
import GoSem.ClaimJoined
import GoSem.ClaimMapViews
import Derived.JoinedTies
import Derived.KernelRfl
namespace Go.Proofs.YtdieojemgkfklaaDoor
/- THE CELL 'sum', in the pinned program and in every row, IS THE sha256 OF THE DUMP (.gsa) THAT YtdieojemgkfklaaDoorProg.lean LOADS. Nothing in Lean hashes anything: it is a label: what it is worth is what the hold of that sum in a sandbox is worth. -/
noncomputable def Tryd.pinned : Pinned := { name := "ytdieojemgkfklaadoor", sum := "c8a3bb3ef7963d9fbbd30e5b3a76a0aa4a36d223b00ed0956e53aa1edb6ee682", checked := Tryd.checked }
namespace Rows
def none {H : Type} : Left H := { results := [], args := [] }

/- WHAT THE LISTED PACKAGE-LEVEL VARIABLES READ AS WHEN THE CALL BEGINS. Each datum BY PROGRAM (the guide's laid-datum.mjs) off the statement by which the dump's own 'gosem.cut.vars' lays the variable. In a bare row this is a premise. The card (YtdieojemgkfklaaDoorCards.lean) ties it to the program's text. -/
def laid_math_bits_deBruijn32tab {H : Type} : DataW H := .agg [.lit (.int .u8 0), .lit (.int .u8 1), .lit (.int .u8 28), .lit (.int .u8 2), .lit (.int .u8 29), .lit (.int .u8 14), .lit (.int .u8 24), .lit (.int .u8 3), .lit (.int .u8 30), .lit (.int .u8 22), .lit (.int .u8 20), .lit (.int .u8 15), .lit (.int .u8 25), .lit (.int .u8 17), .lit (.int .u8 4), .lit (.int .u8 8), .lit (.int .u8 31), .lit (.int .u8 27), .lit (.int .u8 13), .lit (.int .u8 23), .lit (.int .u8 21), .lit (.int .u8 19), .lit (.int .u8 16), .lit (.int .u8 7), .lit (.int .u8 26), .lit (.int .u8 12), .lit (.int .u8 18), .lit (.int .u8 6), .lit (.int .u8 11), .lit (.int .u8 5), .lit (.int .u8 10), .lit (.int .u8 9)]
def laid_math_bits_deBruijn64tab {H : Type} : DataW H := .agg [.lit (.int .u8 0), .lit (.int .u8 1), .lit (.int .u8 56), .lit (.int .u8 2), .lit (.int .u8 57), .lit (.int .u8 49), .lit (.int .u8 28), .lit (.int .u8 3), .lit (.int .u8 61), .lit (.int .u8 58), .lit (.int .u8 42), .lit (.int .u8 50), .lit (.int .u8 38), .lit (.int .u8 29), .lit (.int .u8 17), .lit (.int .u8 4), .lit (.int .u8 62), .lit (.int .u8 47), .lit (.int .u8 59), .lit (.int .u8 36), .lit (.int .u8 45), .lit (.int .u8 43), .lit (.int .u8 51), .lit (.int .u8 22), .lit (.int .u8 53), .lit (.int .u8 39), .lit (.int .u8 33), .lit (.int .u8 30), .lit (.int .u8 24), .lit (.int .u8 18), .lit (.int .u8 12), .lit (.int .u8 5), .lit (.int .u8 63), .lit (.int .u8 55), .lit (.int .u8 48), .lit (.int .u8 27), .lit (.int .u8 60), .lit (.int .u8 41), .lit (.int .u8 37), .lit (.int .u8 16), .lit (.int .u8 46), .lit (.int .u8 35), .lit (.int .u8 44), .lit (.int .u8 21), .lit (.int .u8 52), .lit (.int .u8 32), .lit (.int .u8 23), .lit (.int .u8 11), .lit (.int .u8 54), .lit (.int .u8 26), .lit (.int .u8 40), .lit (.int .u8 15), .lit (.int .u8 34), .lit (.int .u8 20), .lit (.int .u8 31), .lit (.int .u8 10), .lit (.int .u8 25), .lit (.int .u8 14), .lit (.int .u8 19), .lit (.int .u8 9), .lit (.int .u8 13), .lit (.int .u8 8), .lit (.int .u8 7), .lit (.int .u8 6)]

/-- 'hasselaw.LatticeBack': WHATEVER THE INPUT: true; the input reads as it did. -/
def latticeBackSpec : ChangeSpec := { name := "latticeBack", fn := fun _ => fun
  | [d] => { results := [.lit (.bool true)], args := [d] }
  | _ => none }
def latticeBackRow : OpenClaim := { program := "ytdieojemgkfklaadoor", sum := "c8a3bb3ef7963d9fbbd30e5b3a76a0aa4a36d223b00ed0956e53aa1edb6ee682", func := "hasse/hasselaw.LatticeBack", spec := "latticeBack", unfollowed := true, recurses := true, named := ["math/bits.deBruijn32tab", "math/bits.deBruijn64tab"], apart := false, laid := [("math/bits.deBruijn32tab", laid_math_bits_deBruijn32tab), ("math/bits.deBruijn64tab", laid_math_bits_deBruijn64tab)] }
def LatticeBackSaid : Prop := latticeBackRow.holds Tryd.pinned (OpenSpec.ofChange latticeBackSpec)

/-- ITS FALSE NEIGHBOUR: 'it returns false'. Refute it at one input. -/
def latticeBackWrong : ChangeSpec := { name := "latticeBack", fn := fun _ => fun
  | [d] => { results := [.lit (.bool false)], args := [d] }
  | _ => none }
def LatticeBackWrongFalsely : Prop := latticeBackRow.holds Tryd.pinned (OpenSpec.ofChange latticeBackWrong)

/-- 'hasselaw.LatticeBirkhoff': WHATEVER THE INPUT: true; the input reads as it did. -/
def latticeBirkhoffSpec : ChangeSpec := { name := "latticeBirkhoff", fn := fun _ => fun
  | [d] => { results := [.lit (.bool true)], args := [d] }
  | _ => none }
def latticeBirkhoffRow : OpenClaim := { program := "ytdieojemgkfklaadoor", sum := "c8a3bb3ef7963d9fbbd30e5b3a76a0aa4a36d223b00ed0956e53aa1edb6ee682", func := "hasse/hasselaw.LatticeBirkhoff", spec := "latticeBirkhoff", unfollowed := true, recurses := true, named := ["math/bits.deBruijn32tab", "math/bits.deBruijn64tab"], apart := false, laid := [("math/bits.deBruijn32tab", laid_math_bits_deBruijn32tab), ("math/bits.deBruijn64tab", laid_math_bits_deBruijn64tab)] }
def LatticeBirkhoffSaid : Prop := latticeBirkhoffRow.holds Tryd.pinned (OpenSpec.ofChange latticeBirkhoffSpec)

/-- ITS FALSE NEIGHBOUR: 'it returns false'. Refute it at one input. -/
def latticeBirkhoffWrong : ChangeSpec := { name := "latticeBirkhoff", fn := fun _ => fun
  | [d] => { results := [.lit (.bool false)], args := [d] }
  | _ => none }
def LatticeBirkhoffWrongFalsely : Prop := latticeBirkhoffRow.holds Tryd.pinned (OpenSpec.ofChange latticeBirkhoffWrong)

/-- 'hasselaw.CompleteKeeps': WHATEVER THE INPUT: true; the input reads as it did. -/
def completeKeepsSpec : ChangeSpec := { name := "completeKeeps", fn := fun _ => fun
  | [d] => { results := [.lit (.bool true)], args := [d] }
  | _ => none }
def completeKeepsRow : OpenClaim := { program := "ytdieojemgkfklaadoor", sum := "c8a3bb3ef7963d9fbbd30e5b3a76a0aa4a36d223b00ed0956e53aa1edb6ee682", func := "hasse/hasselaw.CompleteKeeps", spec := "completeKeeps", unfollowed := true, recurses := true, named := ["math/bits.deBruijn32tab", "math/bits.deBruijn64tab"], apart := false, laid := [("math/bits.deBruijn32tab", laid_math_bits_deBruijn32tab), ("math/bits.deBruijn64tab", laid_math_bits_deBruijn64tab)] }
def CompleteKeepsSaid : Prop := completeKeepsRow.holds Tryd.pinned (OpenSpec.ofChange completeKeepsSpec)

/-- ITS FALSE NEIGHBOUR: 'it returns false'. Refute it at one input. -/
def completeKeepsWrong : ChangeSpec := { name := "completeKeeps", fn := fun _ => fun
  | [d] => { results := [.lit (.bool false)], args := [d] }
  | _ => none }
def CompleteKeepsWrongFalsely : Prop := completeKeepsRow.holds Tryd.pinned (OpenSpec.ofChange completeKeepsWrong)

/-- 'hasselaw.CompleteDense': WHATEVER THE INPUT: true; the input reads as it did. -/
def completeDenseSpec : ChangeSpec := { name := "completeDense", fn := fun _ => fun
  | [d] => { results := [.lit (.bool true)], args := [d] }
  | _ => none }
def completeDenseRow : OpenClaim := { program := "ytdieojemgkfklaadoor", sum := "c8a3bb3ef7963d9fbbd30e5b3a76a0aa4a36d223b00ed0956e53aa1edb6ee682", func := "hasse/hasselaw.CompleteDense", spec := "completeDense", unfollowed := true, recurses := true, named := ["math/bits.deBruijn32tab", "math/bits.deBruijn64tab"], apart := false, laid := [("math/bits.deBruijn32tab", laid_math_bits_deBruijn32tab), ("math/bits.deBruijn64tab", laid_math_bits_deBruijn64tab)] }
def CompleteDenseSaid : Prop := completeDenseRow.holds Tryd.pinned (OpenSpec.ofChange completeDenseSpec)

/-- ITS FALSE NEIGHBOUR: 'it returns false'. Refute it at one input. -/
def completeDenseWrong : ChangeSpec := { name := "completeDense", fn := fun _ => fun
  | [d] => { results := [.lit (.bool false)], args := [d] }
  | _ => none }
def CompleteDenseWrongFalsely : Prop := completeDenseRow.holds Tryd.pinned (OpenSpec.ofChange completeDenseWrong)

/-- 'hasselaw.CompleteNothing': WHATEVER THE INPUT: true; the input reads as it did. -/
def completeNothingSpec : ChangeSpec := { name := "completeNothing", fn := fun _ => fun
  | [d] => { results := [.lit (.bool true)], args := [d] }
  | _ => none }
def completeNothingRow : OpenClaim := { program := "ytdieojemgkfklaadoor", sum := "c8a3bb3ef7963d9fbbd30e5b3a76a0aa4a36d223b00ed0956e53aa1edb6ee682", func := "hasse/hasselaw.CompleteNothing", spec := "completeNothing", unfollowed := true, recurses := true, named := ["math/bits.deBruijn32tab", "math/bits.deBruijn64tab"], apart := false, laid := [("math/bits.deBruijn32tab", laid_math_bits_deBruijn32tab), ("math/bits.deBruijn64tab", laid_math_bits_deBruijn64tab)] }
def CompleteNothingSaid : Prop := completeNothingRow.holds Tryd.pinned (OpenSpec.ofChange completeNothingSpec)

/-- ITS FALSE NEIGHBOUR: 'it returns false'. Refute it at one input. -/
def completeNothingWrong : ChangeSpec := { name := "completeNothing", fn := fun _ => fun
  | [d] => { results := [.lit (.bool false)], args := [d] }
  | _ => none }
def CompleteNothingWrongFalsely : Prop := completeNothingRow.holds Tryd.pinned (OpenSpec.ofChange completeNothingWrong)

/-- 'hasselaw.ChainWidest': WHATEVER THE INPUT: true; the input reads as it did. -/
def chainWidestSpec : ChangeSpec := { name := "chainWidest", fn := fun _ => fun
  | [d] => { results := [.lit (.bool true)], args := [d] }
  | _ => none }
def chainWidestRow : OpenClaim := { program := "ytdieojemgkfklaadoor", sum := "c8a3bb3ef7963d9fbbd30e5b3a76a0aa4a36d223b00ed0956e53aa1edb6ee682", func := "hasse/hasselaw.ChainWidest", spec := "chainWidest", recurses := true, named := ["math/bits.deBruijn32tab", "math/bits.deBruijn64tab"], apart := false, laid := [("math/bits.deBruijn32tab", laid_math_bits_deBruijn32tab), ("math/bits.deBruijn64tab", laid_math_bits_deBruijn64tab)] }
def ChainWidestSaid : Prop := chainWidestRow.holds Tryd.pinned (OpenSpec.ofChange chainWidestSpec)

/-- ITS FALSE NEIGHBOUR: 'it returns false'. Refute it at one input. -/
def chainWidestWrong : ChangeSpec := { name := "chainWidest", fn := fun _ => fun
  | [d] => { results := [.lit (.bool false)], args := [d] }
  | _ => none }
def ChainWidestWrongFalsely : Prop := chainWidestRow.holds Tryd.pinned (OpenSpec.ofChange chainWidestWrong)

/-- 'hasselaw.ChainParts': WHATEVER THE INPUT: true; the input reads as it did. -/
def chainPartsSpec : ChangeSpec := { name := "chainParts", fn := fun _ => fun
  | [d] => { results := [.lit (.bool true)], args := [d] }
  | _ => none }
def chainPartsRow : OpenClaim := { program := "ytdieojemgkfklaadoor", sum := "c8a3bb3ef7963d9fbbd30e5b3a76a0aa4a36d223b00ed0956e53aa1edb6ee682", func := "hasse/hasselaw.ChainParts", spec := "chainParts", recurses := true, named := ["math/bits.deBruijn32tab", "math/bits.deBruijn64tab"], apart := false, laid := [("math/bits.deBruijn32tab", laid_math_bits_deBruijn32tab), ("math/bits.deBruijn64tab", laid_math_bits_deBruijn64tab)] }
def ChainPartsSaid : Prop := chainPartsRow.holds Tryd.pinned (OpenSpec.ofChange chainPartsSpec)

/-- ITS FALSE NEIGHBOUR: 'it returns false'. Refute it at one input. -/
def chainPartsWrong : ChangeSpec := { name := "chainParts", fn := fun _ => fun
  | [d] => { results := [.lit (.bool false)], args := [d] }
  | _ => none }
def ChainPartsWrongFalsely : Prop := chainPartsRow.holds Tryd.pinned (OpenSpec.ofChange chainPartsWrong)

/-- 'hasselaw.ChainDilworth': WHATEVER THE INPUT: true; the input reads as it did. -/
def chainDilworthSpec : ChangeSpec := { name := "chainDilworth", fn := fun _ => fun
  | [d1, d2] => { results := [.lit (.bool true)], args := [d1, d2] }
  | _ => none }
def chainDilworthRow : OpenClaim := { program := "ytdieojemgkfklaadoor", sum := "c8a3bb3ef7963d9fbbd30e5b3a76a0aa4a36d223b00ed0956e53aa1edb6ee682", func := "hasse/hasselaw.ChainDilworth", spec := "chainDilworth", recurses := true, named := ["math/bits.deBruijn32tab", "math/bits.deBruijn64tab"], apart := false, laid := [("math/bits.deBruijn32tab", laid_math_bits_deBruijn32tab), ("math/bits.deBruijn64tab", laid_math_bits_deBruijn64tab)] }
def ChainDilworthSaid : Prop := chainDilworthRow.holds Tryd.pinned (OpenSpec.ofChange chainDilworthSpec)

/-- ITS FALSE NEIGHBOUR: 'it returns false'. Refute it at one input. -/
def chainDilworthWrong : ChangeSpec := { name := "chainDilworth", fn := fun _ => fun
  | [d1, d2] => { results := [.lit (.bool false)], args := [d1, d2] }
  | _ => none }
def ChainDilworthWrongFalsely : Prop := chainDilworthRow.holds Tryd.pinned (OpenSpec.ofChange chainDilworthWrong)

/-- 'hasselaw.ChainShapes': WHATEVER THE INPUT: true; the input reads as it did. -/
def chainShapesSpec : ChangeSpec := { name := "chainShapes", fn := fun _ => fun
  | [d] => { results := [.lit (.bool true)], args := [d] }
  | _ => none }
def chainShapesRow : OpenClaim := { program := "ytdieojemgkfklaadoor", sum := "c8a3bb3ef7963d9fbbd30e5b3a76a0aa4a36d223b00ed0956e53aa1edb6ee682", func := "hasse/hasselaw.ChainShapes", spec := "chainShapes", recurses := true, named := ["math/bits.deBruijn32tab", "math/bits.deBruijn64tab"], apart := false, laid := [("math/bits.deBruijn32tab", laid_math_bits_deBruijn32tab), ("math/bits.deBruijn64tab", laid_math_bits_deBruijn64tab)] }
def ChainShapesSaid : Prop := chainShapesRow.holds Tryd.pinned (OpenSpec.ofChange chainShapesSpec)

/-- ITS FALSE NEIGHBOUR: 'it returns false'. Refute it at one input. -/
def chainShapesWrong : ChangeSpec := { name := "chainShapes", fn := fun _ => fun
  | [d] => { results := [.lit (.bool false)], args := [d] }
  | _ => none }
def ChainShapesWrongFalsely : Prop := chainShapesRow.holds Tryd.pinned (OpenSpec.ofChange chainShapesWrong)

/-- 'hasselaw.FixCounts': WHATEVER THE INPUT: true; the input reads as it did. -/
def fixCountsSpec : ChangeSpec := { name := "fixCounts", fn := fun _ => fun
  | [d1, d2] => { results := [.lit (.bool true)], args := [d1, d2] }
  | _ => none }
def fixCountsRow : OpenClaim := { program := "ytdieojemgkfklaadoor", sum := "c8a3bb3ef7963d9fbbd30e5b3a76a0aa4a36d223b00ed0956e53aa1edb6ee682", func := "hasse/hasselaw.FixCounts", spec := "fixCounts", unfollowed := true, recurses := true, named := ["math/bits.deBruijn32tab", "math/bits.deBruijn64tab"], apart := false, laid := [("math/bits.deBruijn32tab", laid_math_bits_deBruijn32tab), ("math/bits.deBruijn64tab", laid_math_bits_deBruijn64tab)] }
def FixCountsSaid : Prop := fixCountsRow.holds Tryd.pinned (OpenSpec.ofChange fixCountsSpec)

/-- ITS FALSE NEIGHBOUR: 'it returns false'. Refute it at one input. -/
def fixCountsWrong : ChangeSpec := { name := "fixCounts", fn := fun _ => fun
  | [d1, d2] => { results := [.lit (.bool false)], args := [d1, d2] }
  | _ => none }
def FixCountsWrongFalsely : Prop := fixCountsRow.holds Tryd.pinned (OpenSpec.ofChange fixCountsWrong)

/-- 'hasselaw.FixCores': WHATEVER THE INPUT: true; the input reads as it did. -/
def fixCoresSpec : ChangeSpec := { name := "fixCores", fn := fun _ => fun
  | [d] => { results := [.lit (.bool true)], args := [d] }
  | _ => none }
def fixCoresRow : OpenClaim := { program := "ytdieojemgkfklaadoor", sum := "c8a3bb3ef7963d9fbbd30e5b3a76a0aa4a36d223b00ed0956e53aa1edb6ee682", func := "hasse/hasselaw.FixCores", spec := "fixCores", unfollowed := true, recurses := true, named := ["math/bits.deBruijn32tab", "math/bits.deBruijn64tab"], apart := false, laid := [("math/bits.deBruijn32tab", laid_math_bits_deBruijn32tab), ("math/bits.deBruijn64tab", laid_math_bits_deBruijn64tab)] }
def FixCoresSaid : Prop := fixCoresRow.holds Tryd.pinned (OpenSpec.ofChange fixCoresSpec)

/-- ITS FALSE NEIGHBOUR: 'it returns false'. Refute it at one input. -/
def fixCoresWrong : ChangeSpec := { name := "fixCores", fn := fun _ => fun
  | [d] => { results := [.lit (.bool false)], args := [d] }
  | _ => none }
def FixCoresWrongFalsely : Prop := fixCoresRow.holds Tryd.pinned (OpenSpec.ofChange fixCoresWrong)

/-- 'hasselaw.FixEnds': WHATEVER THE INPUT: true; the input reads as it did. -/
def fixEndsSpec : ChangeSpec := { name := "fixEnds", fn := fun _ => fun
  | [d1, d2] => { results := [.lit (.bool true)], args := [d1, d2] }
  | _ => none }
def fixEndsRow : OpenClaim := { program := "ytdieojemgkfklaadoor", sum := "c8a3bb3ef7963d9fbbd30e5b3a76a0aa4a36d223b00ed0956e53aa1edb6ee682", func := "hasse/hasselaw.FixEnds", spec := "fixEnds", unfollowed := true, recurses := true, named := ["math/bits.deBruijn32tab", "math/bits.deBruijn64tab"], apart := false, laid := [("math/bits.deBruijn32tab", laid_math_bits_deBruijn32tab), ("math/bits.deBruijn64tab", laid_math_bits_deBruijn64tab)] }
def FixEndsSaid : Prop := fixEndsRow.holds Tryd.pinned (OpenSpec.ofChange fixEndsSpec)

/-- ITS FALSE NEIGHBOUR: 'it returns false'. Refute it at one input. -/
def fixEndsWrong : ChangeSpec := { name := "fixEnds", fn := fun _ => fun
  | [d1, d2] => { results := [.lit (.bool false)], args := [d1, d2] }
  | _ => none }
def FixEndsWrongFalsely : Prop := fixEndsRow.holds Tryd.pinned (OpenSpec.ofChange fixEndsWrong)

/- THE SECOND FORM. 'bulk': how many values and letters a reading holds, each counted each time it is reached (what is shared counts as often as it is met; a slice's spare places count too). A statement '..UptoSaid' is the law's where the arguments, and the package variables that the reading takes, are together of bulk at most 1048576: NARROWER than '..Said'. Prove '..Said' where nothing that the law and all that it calls make is longer than what came in: it says more and counts as full. Else prove '..UptoSaid'. A law counts once. -/
mutual
def uptoBulk {H : Type} : DataW H → Nat
  | .lit (.string bytes) => bytes.length + 1
  | .lit _ => 1
  | .nil => 1
  | .ptr d => uptoBulk d + 1
  | .slice elems spare => uptoBulkAll elems + uptoBulkAll spare + 1
  | .agg parts => uptoBulkAll parts + 1
  | .iface _ d => uptoBulk d + 1
  | .map entries => uptoBulkEntries entries + 1
  | .held _ => 1
def uptoBulkAll {H : Type} : List (DataW H) → Nat
  | [] => 0
  | d :: r => uptoBulk d + uptoBulkAll r
def uptoBulkEntries {H : Type} : List (Lit × DataW H) → Nat
  | [] => 0
  | x :: r => uptoBulkEntry x + uptoBulkEntries r
def uptoBulkEntry {H : Type} : Lit × DataW H → Nat
  | (.string bytes, d) => bytes.length + uptoBulk d + 1
  | (_, d) => uptoBulk d + 1
 end
def uptoSmall : (H : Type) → List (DataW H) → Bool := fun _ ds => decide (uptoBulkAll ds ≤ 1048576)
def OpenSpec.upto (s : _root_.Go.ChangeSpec) : _root_.Go.OpenSpec := { _root_.Go.OpenSpec.ofChange s with cond := some uptoSmall }

/-- 'hasselaw.LatticeBack', WHERE WHAT IT READS IS OF BULK AT MOST 1048576: true; the input reads as it did. -/
def latticeBackUptoRow : OpenClaim := { program := "ytdieojemgkfklaadoor", sum := "c8a3bb3ef7963d9fbbd30e5b3a76a0aa4a36d223b00ed0956e53aa1edb6ee682", func := "hasse/hasselaw.LatticeBack", spec := "latticeBack", unfollowed := true, recurses := true, named := ["math/bits.deBruijn32tab", "math/bits.deBruijn64tab"], apart := false, laid := [("math/bits.deBruijn32tab", laid_math_bits_deBruijn32tab), ("math/bits.deBruijn64tab", laid_math_bits_deBruijn64tab)], narrowed := true }
def LatticeBackUptoSaid : Prop := latticeBackUptoRow.holds Tryd.pinned (OpenSpec.upto latticeBackSpec)

/-- 'hasselaw.LatticeBirkhoff', WHERE WHAT IT READS IS OF BULK AT MOST 1048576: true; the input reads as it did. -/
def latticeBirkhoffUptoRow : OpenClaim := { program := "ytdieojemgkfklaadoor", sum := "c8a3bb3ef7963d9fbbd30e5b3a76a0aa4a36d223b00ed0956e53aa1edb6ee682", func := "hasse/hasselaw.LatticeBirkhoff", spec := "latticeBirkhoff", unfollowed := true, recurses := true, named := ["math/bits.deBruijn32tab", "math/bits.deBruijn64tab"], apart := false, laid := [("math/bits.deBruijn32tab", laid_math_bits_deBruijn32tab), ("math/bits.deBruijn64tab", laid_math_bits_deBruijn64tab)], narrowed := true }
def LatticeBirkhoffUptoSaid : Prop := latticeBirkhoffUptoRow.holds Tryd.pinned (OpenSpec.upto latticeBirkhoffSpec)

/-- 'hasselaw.CompleteKeeps', WHERE WHAT IT READS IS OF BULK AT MOST 1048576: true; the input reads as it did. -/
def completeKeepsUptoRow : OpenClaim := { program := "ytdieojemgkfklaadoor", sum := "c8a3bb3ef7963d9fbbd30e5b3a76a0aa4a36d223b00ed0956e53aa1edb6ee682", func := "hasse/hasselaw.CompleteKeeps", spec := "completeKeeps", unfollowed := true, recurses := true, named := ["math/bits.deBruijn32tab", "math/bits.deBruijn64tab"], apart := false, laid := [("math/bits.deBruijn32tab", laid_math_bits_deBruijn32tab), ("math/bits.deBruijn64tab", laid_math_bits_deBruijn64tab)], narrowed := true }
def CompleteKeepsUptoSaid : Prop := completeKeepsUptoRow.holds Tryd.pinned (OpenSpec.upto completeKeepsSpec)

/-- 'hasselaw.CompleteDense', WHERE WHAT IT READS IS OF BULK AT MOST 1048576: true; the input reads as it did. -/
def completeDenseUptoRow : OpenClaim := { program := "ytdieojemgkfklaadoor", sum := "c8a3bb3ef7963d9fbbd30e5b3a76a0aa4a36d223b00ed0956e53aa1edb6ee682", func := "hasse/hasselaw.CompleteDense", spec := "completeDense", unfollowed := true, recurses := true, named := ["math/bits.deBruijn32tab", "math/bits.deBruijn64tab"], apart := false, laid := [("math/bits.deBruijn32tab", laid_math_bits_deBruijn32tab), ("math/bits.deBruijn64tab", laid_math_bits_deBruijn64tab)], narrowed := true }
def CompleteDenseUptoSaid : Prop := completeDenseUptoRow.holds Tryd.pinned (OpenSpec.upto completeDenseSpec)

/-- 'hasselaw.CompleteNothing', WHERE WHAT IT READS IS OF BULK AT MOST 1048576: true; the input reads as it did. -/
def completeNothingUptoRow : OpenClaim := { program := "ytdieojemgkfklaadoor", sum := "c8a3bb3ef7963d9fbbd30e5b3a76a0aa4a36d223b00ed0956e53aa1edb6ee682", func := "hasse/hasselaw.CompleteNothing", spec := "completeNothing", unfollowed := true, recurses := true, named := ["math/bits.deBruijn32tab", "math/bits.deBruijn64tab"], apart := false, laid := [("math/bits.deBruijn32tab", laid_math_bits_deBruijn32tab), ("math/bits.deBruijn64tab", laid_math_bits_deBruijn64tab)], narrowed := true }
def CompleteNothingUptoSaid : Prop := completeNothingUptoRow.holds Tryd.pinned (OpenSpec.upto completeNothingSpec)

/-- 'hasselaw.ChainWidest', WHERE WHAT IT READS IS OF BULK AT MOST 1048576: true; the input reads as it did. -/
def chainWidestUptoRow : OpenClaim := { program := "ytdieojemgkfklaadoor", sum := "c8a3bb3ef7963d9fbbd30e5b3a76a0aa4a36d223b00ed0956e53aa1edb6ee682", func := "hasse/hasselaw.ChainWidest", spec := "chainWidest", recurses := true, named := ["math/bits.deBruijn32tab", "math/bits.deBruijn64tab"], apart := false, laid := [("math/bits.deBruijn32tab", laid_math_bits_deBruijn32tab), ("math/bits.deBruijn64tab", laid_math_bits_deBruijn64tab)], narrowed := true }
def ChainWidestUptoSaid : Prop := chainWidestUptoRow.holds Tryd.pinned (OpenSpec.upto chainWidestSpec)

/-- 'hasselaw.ChainParts', WHERE WHAT IT READS IS OF BULK AT MOST 1048576: true; the input reads as it did. -/
def chainPartsUptoRow : OpenClaim := { program := "ytdieojemgkfklaadoor", sum := "c8a3bb3ef7963d9fbbd30e5b3a76a0aa4a36d223b00ed0956e53aa1edb6ee682", func := "hasse/hasselaw.ChainParts", spec := "chainParts", recurses := true, named := ["math/bits.deBruijn32tab", "math/bits.deBruijn64tab"], apart := false, laid := [("math/bits.deBruijn32tab", laid_math_bits_deBruijn32tab), ("math/bits.deBruijn64tab", laid_math_bits_deBruijn64tab)], narrowed := true }
def ChainPartsUptoSaid : Prop := chainPartsUptoRow.holds Tryd.pinned (OpenSpec.upto chainPartsSpec)

/-- 'hasselaw.ChainDilworth', WHERE WHAT IT READS IS OF BULK AT MOST 1048576: true; the input reads as it did. -/
def chainDilworthUptoRow : OpenClaim := { program := "ytdieojemgkfklaadoor", sum := "c8a3bb3ef7963d9fbbd30e5b3a76a0aa4a36d223b00ed0956e53aa1edb6ee682", func := "hasse/hasselaw.ChainDilworth", spec := "chainDilworth", recurses := true, named := ["math/bits.deBruijn32tab", "math/bits.deBruijn64tab"], apart := false, laid := [("math/bits.deBruijn32tab", laid_math_bits_deBruijn32tab), ("math/bits.deBruijn64tab", laid_math_bits_deBruijn64tab)], narrowed := true }
def ChainDilworthUptoSaid : Prop := chainDilworthUptoRow.holds Tryd.pinned (OpenSpec.upto chainDilworthSpec)

/-- 'hasselaw.ChainShapes', WHERE WHAT IT READS IS OF BULK AT MOST 1048576: true; the input reads as it did. -/
def chainShapesUptoRow : OpenClaim := { program := "ytdieojemgkfklaadoor", sum := "c8a3bb3ef7963d9fbbd30e5b3a76a0aa4a36d223b00ed0956e53aa1edb6ee682", func := "hasse/hasselaw.ChainShapes", spec := "chainShapes", recurses := true, named := ["math/bits.deBruijn32tab", "math/bits.deBruijn64tab"], apart := false, laid := [("math/bits.deBruijn32tab", laid_math_bits_deBruijn32tab), ("math/bits.deBruijn64tab", laid_math_bits_deBruijn64tab)], narrowed := true }
def ChainShapesUptoSaid : Prop := chainShapesUptoRow.holds Tryd.pinned (OpenSpec.upto chainShapesSpec)

/-- 'hasselaw.FixCounts', WHERE WHAT IT READS IS OF BULK AT MOST 1048576: true; the input reads as it did. -/
def fixCountsUptoRow : OpenClaim := { program := "ytdieojemgkfklaadoor", sum := "c8a3bb3ef7963d9fbbd30e5b3a76a0aa4a36d223b00ed0956e53aa1edb6ee682", func := "hasse/hasselaw.FixCounts", spec := "fixCounts", unfollowed := true, recurses := true, named := ["math/bits.deBruijn32tab", "math/bits.deBruijn64tab"], apart := false, laid := [("math/bits.deBruijn32tab", laid_math_bits_deBruijn32tab), ("math/bits.deBruijn64tab", laid_math_bits_deBruijn64tab)], narrowed := true }
def FixCountsUptoSaid : Prop := fixCountsUptoRow.holds Tryd.pinned (OpenSpec.upto fixCountsSpec)

/-- 'hasselaw.FixCores', WHERE WHAT IT READS IS OF BULK AT MOST 1048576: true; the input reads as it did. -/
def fixCoresUptoRow : OpenClaim := { program := "ytdieojemgkfklaadoor", sum := "c8a3bb3ef7963d9fbbd30e5b3a76a0aa4a36d223b00ed0956e53aa1edb6ee682", func := "hasse/hasselaw.FixCores", spec := "fixCores", unfollowed := true, recurses := true, named := ["math/bits.deBruijn32tab", "math/bits.deBruijn64tab"], apart := false, laid := [("math/bits.deBruijn32tab", laid_math_bits_deBruijn32tab), ("math/bits.deBruijn64tab", laid_math_bits_deBruijn64tab)], narrowed := true }
def FixCoresUptoSaid : Prop := fixCoresUptoRow.holds Tryd.pinned (OpenSpec.upto fixCoresSpec)

/-- 'hasselaw.FixEnds', WHERE WHAT IT READS IS OF BULK AT MOST 1048576: true; the input reads as it did. -/
def fixEndsUptoRow : OpenClaim := { program := "ytdieojemgkfklaadoor", sum := "c8a3bb3ef7963d9fbbd30e5b3a76a0aa4a36d223b00ed0956e53aa1edb6ee682", func := "hasse/hasselaw.FixEnds", spec := "fixEnds", unfollowed := true, recurses := true, named := ["math/bits.deBruijn32tab", "math/bits.deBruijn64tab"], apart := false, laid := [("math/bits.deBruijn32tab", laid_math_bits_deBruijn32tab), ("math/bits.deBruijn64tab", laid_math_bits_deBruijn64tab)], narrowed := true }
def FixEndsUptoSaid : Prop := fixEndsUptoRow.holds Tryd.pinned (OpenSpec.upto fixEndsSpec)

end Rows
end Go.Proofs.YtdieojemgkfklaaDoor
