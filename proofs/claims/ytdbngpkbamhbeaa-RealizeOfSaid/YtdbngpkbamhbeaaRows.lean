/-
  No cell of these rows narrows 'for every input' (looked for: loops, veiled, ifaces, maps, wideKeys, modest, calm, conditions, laid).
  DERIVED. THE GIVEN ROWS OF THIS SEAT. 12 by the template 'for every input the law returns true; each argument reads behind the call as it read before'; 0 by the template 'total and deterministic' (their statements: YtdbngpkbamhbeaaTotals.lean).
  GIVEN WITH THE SEED: the statements are not yours to turn. If you find one false, say at which input.
  Laid BY PROGRAM, IN A SANDBOX (cutbox-rows.mjs): the forced cells as the released guide's own fill.sh prints them over the translation 372b562bce4c2bc8… (all of the seat's roots in one cut). By AI agents, Wed Nov 11 2026. No macro, syntax, notation, axiom, sorry.
-/
import Derived.Test.YtdbngpkbamhbeaaChecked
import GoSem.Claim
import GoSem.ClaimJoined
import GoSem.ClaimMapViews
import Derived.JoinedTies
import Derived.KernelRfl
namespace Go.Proofs.Ytdbngpkbamhbeaa
/- THE CELL 'sum', in the pinned program and in every row, IS THE sha256 OF THE DUMP (.gsa) THAT YtdbngpkbamhbeaaProg.lean LOADS. Nothing in Lean hashes anything: it is a label: what it is worth is what the hold of that sum in a sandbox is worth. -/
noncomputable def Try.pinned : Pinned := { name := "ytdbngpkbamhbeaa", sum := "372b562bce4c2bc8ef45014bdf305ca1374d717383f1fc1b91f3e86c51555936", checked := Try.checked }
namespace Rows
def none {H : Type} : Left H := { results := [], args := [] }

/-- 'hasselaw.ImplyGuigues': WHATEVER THE INPUT: true; the input reads as it did. -/
def implyGuiguesSpec : ChangeSpec := { name := "implyGuigues", fn := fun _ => fun
  | [d1, d2] => { results := [.lit (.bool true)], args := [d1, d2] }
  | _ => none }
def implyGuiguesRow : OpenClaim := { program := "ytdbngpkbamhbeaa", sum := "372b562bce4c2bc8ef45014bdf305ca1374d717383f1fc1b91f3e86c51555936", func := "hasse/hasselaw.ImplyGuigues", spec := "implyGuigues", unfollowed := true, recurses := true, apart := false }
def ImplyGuiguesSaid : Prop := implyGuiguesRow.holds Try.pinned (OpenSpec.ofChange implyGuiguesSpec)

/-- ITS FALSE NEIGHBOUR: 'it returns false'. Refute it at one input. -/
def implyGuiguesWrong : ChangeSpec := { name := "implyGuigues", fn := fun _ => fun
  | [d1, d2] => { results := [.lit (.bool false)], args := [d1, d2] }
  | _ => none }
def ImplyGuiguesWrongFalsely : Prop := implyGuiguesRow.holds Try.pinned (OpenSpec.ofChange implyGuiguesWrong)

/-- 'hasselaw.ImplyOf': WHATEVER THE INPUT: true; the input reads as it did. -/
def implyOfSpec : ChangeSpec := { name := "implyOf", fn := fun _ => fun
  | [d] => { results := [.lit (.bool true)], args := [d] }
  | _ => none }
def implyOfRow : OpenClaim := { program := "ytdbngpkbamhbeaa", sum := "372b562bce4c2bc8ef45014bdf305ca1374d717383f1fc1b91f3e86c51555936", func := "hasse/hasselaw.ImplyOf", spec := "implyOf", unfollowed := true, recurses := true, apart := false }
def ImplyOfSaid : Prop := implyOfRow.holds Try.pinned (OpenSpec.ofChange implyOfSpec)

/-- ITS FALSE NEIGHBOUR: 'it returns false'. Refute it at one input. -/
def implyOfWrong : ChangeSpec := { name := "implyOf", fn := fun _ => fun
  | [d] => { results := [.lit (.bool false)], args := [d] }
  | _ => none }
def ImplyOfWrongFalsely : Prop := implyOfRow.holds Try.pinned (OpenSpec.ofChange implyOfWrong)

/-- 'hasselaw.ImplyObeyed': WHATEVER THE INPUT: true; the input reads as it did. -/
def implyObeyedSpec : ChangeSpec := { name := "implyObeyed", fn := fun _ => fun
  | [d1, d2] => { results := [.lit (.bool true)], args := [d1, d2] }
  | _ => none }
def implyObeyedRow : OpenClaim := { program := "ytdbngpkbamhbeaa", sum := "372b562bce4c2bc8ef45014bdf305ca1374d717383f1fc1b91f3e86c51555936", func := "hasse/hasselaw.ImplyObeyed", spec := "implyObeyed", unfollowed := true, recurses := true, apart := false }
def ImplyObeyedSaid : Prop := implyObeyedRow.holds Try.pinned (OpenSpec.ofChange implyObeyedSpec)

/-- ITS FALSE NEIGHBOUR: 'it returns false'. Refute it at one input. -/
def implyObeyedWrong : ChangeSpec := { name := "implyObeyed", fn := fun _ => fun
  | [d1, d2] => { results := [.lit (.bool false)], args := [d1, d2] }
  | _ => none }
def ImplyObeyedWrongFalsely : Prop := implyObeyedRow.holds Try.pinned (OpenSpec.ofChange implyObeyedWrong)

/-- 'hasselaw.RealizeOf': WHATEVER THE INPUT: true; the input reads as it did. -/
def realizeOfSpec : ChangeSpec := { name := "realizeOf", fn := fun _ => fun
  | [d1, d2] => { results := [.lit (.bool true)], args := [d1, d2] }
  | _ => none }
def realizeOfRow : OpenClaim := { program := "ytdbngpkbamhbeaa", sum := "372b562bce4c2bc8ef45014bdf305ca1374d717383f1fc1b91f3e86c51555936", func := "hasse/hasselaw.RealizeOf", spec := "realizeOf", unfollowed := true, recurses := true, apart := false }
def RealizeOfSaid : Prop := realizeOfRow.holds Try.pinned (OpenSpec.ofChange realizeOfSpec)

/-- ITS FALSE NEIGHBOUR: 'it returns false'. Refute it at one input. -/
def realizeOfWrong : ChangeSpec := { name := "realizeOf", fn := fun _ => fun
  | [d1, d2] => { results := [.lit (.bool false)], args := [d1, d2] }
  | _ => none }
def RealizeOfWrongFalsely : Prop := realizeOfRow.holds Try.pinned (OpenSpec.ofChange realizeOfWrong)

/-- 'hasselaw.QuotientAll': WHATEVER THE INPUT: true; the input reads as it did. -/
def quotientAllSpec : ChangeSpec := { name := "quotientAll", fn := fun _ => fun
  | [d] => { results := [.lit (.bool true)], args := [d] }
  | _ => none }
def quotientAllRow : OpenClaim := { program := "ytdbngpkbamhbeaa", sum := "372b562bce4c2bc8ef45014bdf305ca1374d717383f1fc1b91f3e86c51555936", func := "hasse/hasselaw.QuotientAll", spec := "quotientAll", unfollowed := true, recurses := true, apart := false }
def QuotientAllSaid : Prop := quotientAllRow.holds Try.pinned (OpenSpec.ofChange quotientAllSpec)

/-- ITS FALSE NEIGHBOUR: 'it returns false'. Refute it at one input. -/
def quotientAllWrong : ChangeSpec := { name := "quotientAll", fn := fun _ => fun
  | [d] => { results := [.lit (.bool false)], args := [d] }
  | _ => none }
def QuotientAllWrongFalsely : Prop := quotientAllRow.holds Try.pinned (OpenSpec.ofChange quotientAllWrong)

/-- 'hasselaw.QuotientLeast': WHATEVER THE INPUT: true; the input reads as it did. -/
def quotientLeastSpec : ChangeSpec := { name := "quotientLeast", fn := fun _ => fun
  | [d1, d2, d3] => { results := [.lit (.bool true)], args := [d1, d2, d3] }
  | _ => none }
def quotientLeastRow : OpenClaim := { program := "ytdbngpkbamhbeaa", sum := "372b562bce4c2bc8ef45014bdf305ca1374d717383f1fc1b91f3e86c51555936", func := "hasse/hasselaw.QuotientLeast", spec := "quotientLeast", unfollowed := true, recurses := true, apart := false }
def QuotientLeastSaid : Prop := quotientLeastRow.holds Try.pinned (OpenSpec.ofChange quotientLeastSpec)

/-- ITS FALSE NEIGHBOUR: 'it returns false'. Refute it at one input. -/
def quotientLeastWrong : ChangeSpec := { name := "quotientLeast", fn := fun _ => fun
  | [d1, d2, d3] => { results := [.lit (.bool false)], args := [d1, d2, d3] }
  | _ => none }
def QuotientLeastWrongFalsely : Prop := quotientLeastRow.holds Try.pinned (OpenSpec.ofChange quotientLeastWrong)

/-- 'hasselaw.QuotientSimple': WHATEVER THE INPUT: true; the input reads as it did. -/
def quotientSimpleSpec : ChangeSpec := { name := "quotientSimple", fn := fun _ => fun
  | [d] => { results := [.lit (.bool true)], args := [d] }
  | _ => none }
def quotientSimpleRow : OpenClaim := { program := "ytdbngpkbamhbeaa", sum := "372b562bce4c2bc8ef45014bdf305ca1374d717383f1fc1b91f3e86c51555936", func := "hasse/hasselaw.QuotientSimple", spec := "quotientSimple", unfollowed := true, recurses := true, apart := false }
def QuotientSimpleSaid : Prop := quotientSimpleRow.holds Try.pinned (OpenSpec.ofChange quotientSimpleSpec)

/-- ITS FALSE NEIGHBOUR: 'it returns false'. Refute it at one input. -/
def quotientSimpleWrong : ChangeSpec := { name := "quotientSimple", fn := fun _ => fun
  | [d] => { results := [.lit (.bool false)], args := [d] }
  | _ => none }
def QuotientSimpleWrongFalsely : Prop := quotientSimpleRow.holds Try.pinned (OpenSpec.ofChange quotientSimpleWrong)

/-- 'hasselaw.QuotientChecks': WHATEVER THE INPUT: true; the input reads as it did. -/
def quotientChecksSpec : ChangeSpec := { name := "quotientChecks", fn := fun _ => fun
  | [d1, d2] => { results := [.lit (.bool true)], args := [d1, d2] }
  | _ => none }
def quotientChecksRow : OpenClaim := { program := "ytdbngpkbamhbeaa", sum := "372b562bce4c2bc8ef45014bdf305ca1374d717383f1fc1b91f3e86c51555936", func := "hasse/hasselaw.QuotientChecks", spec := "quotientChecks", unfollowed := true, recurses := true, apart := false }
def QuotientChecksSaid : Prop := quotientChecksRow.holds Try.pinned (OpenSpec.ofChange quotientChecksSpec)

/-- ITS FALSE NEIGHBOUR: 'it returns false'. Refute it at one input. -/
def quotientChecksWrong : ChangeSpec := { name := "quotientChecks", fn := fun _ => fun
  | [d1, d2] => { results := [.lit (.bool false)], args := [d1, d2] }
  | _ => none }
def QuotientChecksWrongFalsely : Prop := quotientChecksRow.holds Try.pinned (OpenSpec.ofChange quotientChecksWrong)

/-- 'hasselaw.QuotientSmallest': WHATEVER THE INPUT: true; the input reads as it did. -/
def quotientSmallestSpec : ChangeSpec := { name := "quotientSmallest", fn := fun _ => fun
  | [d1, d2, d3, d4] => { results := [.lit (.bool true)], args := [d1, d2, d3, d4] }
  | _ => none }
def quotientSmallestRow : OpenClaim := { program := "ytdbngpkbamhbeaa", sum := "372b562bce4c2bc8ef45014bdf305ca1374d717383f1fc1b91f3e86c51555936", func := "hasse/hasselaw.QuotientSmallest", spec := "quotientSmallest", unfollowed := true, recurses := true, apart := false }
def QuotientSmallestSaid : Prop := quotientSmallestRow.holds Try.pinned (OpenSpec.ofChange quotientSmallestSpec)

/-- ITS FALSE NEIGHBOUR: 'it returns false'. Refute it at one input. -/
def quotientSmallestWrong : ChangeSpec := { name := "quotientSmallest", fn := fun _ => fun
  | [d1, d2, d3, d4] => { results := [.lit (.bool false)], args := [d1, d2, d3, d4] }
  | _ => none }
def QuotientSmallestWrongFalsely : Prop := quotientSmallestRow.holds Try.pinned (OpenSpec.ofChange quotientSmallestWrong)

/-- 'hasselaw.QuotientFunayama': WHATEVER THE INPUT: true; the input reads as it did. -/
def quotientFunayamaSpec : ChangeSpec := { name := "quotientFunayama", fn := fun _ => fun
  | [d] => { results := [.lit (.bool true)], args := [d] }
  | _ => none }
def quotientFunayamaRow : OpenClaim := { program := "ytdbngpkbamhbeaa", sum := "372b562bce4c2bc8ef45014bdf305ca1374d717383f1fc1b91f3e86c51555936", func := "hasse/hasselaw.QuotientFunayama", spec := "quotientFunayama", unfollowed := true, recurses := true, apart := false }
def QuotientFunayamaSaid : Prop := quotientFunayamaRow.holds Try.pinned (OpenSpec.ofChange quotientFunayamaSpec)

/-- ITS FALSE NEIGHBOUR: 'it returns false'. Refute it at one input. -/
def quotientFunayamaWrong : ChangeSpec := { name := "quotientFunayama", fn := fun _ => fun
  | [d] => { results := [.lit (.bool false)], args := [d] }
  | _ => none }
def QuotientFunayamaWrongFalsely : Prop := quotientFunayamaRow.holds Try.pinned (OpenSpec.ofChange quotientFunayamaWrong)

/-- 'hasselaw.QuotientBy': WHATEVER THE INPUT: true; the input reads as it did. -/
def quotientBySpec : ChangeSpec := { name := "quotientBy", fn := fun _ => fun
  | [d1, d2] => { results := [.lit (.bool true)], args := [d1, d2] }
  | _ => none }
def quotientByRow : OpenClaim := { program := "ytdbngpkbamhbeaa", sum := "372b562bce4c2bc8ef45014bdf305ca1374d717383f1fc1b91f3e86c51555936", func := "hasse/hasselaw.QuotientBy", spec := "quotientBy", unfollowed := true, recurses := true, apart := false }
def QuotientBySaid : Prop := quotientByRow.holds Try.pinned (OpenSpec.ofChange quotientBySpec)

/-- ITS FALSE NEIGHBOUR: 'it returns false'. Refute it at one input. -/
def quotientByWrong : ChangeSpec := { name := "quotientBy", fn := fun _ => fun
  | [d1, d2] => { results := [.lit (.bool false)], args := [d1, d2] }
  | _ => none }
def QuotientByWrongFalsely : Prop := quotientByRow.holds Try.pinned (OpenSpec.ofChange quotientByWrong)

/-- 'hasselaw.QuotientMaps': WHATEVER THE INPUT: true; the input reads as it did. -/
def quotientMapsSpec : ChangeSpec := { name := "quotientMaps", fn := fun _ => fun
  | [d1, d2, d3] => { results := [.lit (.bool true)], args := [d1, d2, d3] }
  | _ => none }
def quotientMapsRow : OpenClaim := { program := "ytdbngpkbamhbeaa", sum := "372b562bce4c2bc8ef45014bdf305ca1374d717383f1fc1b91f3e86c51555936", func := "hasse/hasselaw.QuotientMaps", spec := "quotientMaps", unfollowed := true, recurses := true, apart := false }
def QuotientMapsSaid : Prop := quotientMapsRow.holds Try.pinned (OpenSpec.ofChange quotientMapsSpec)

/-- ITS FALSE NEIGHBOUR: 'it returns false'. Refute it at one input. -/
def quotientMapsWrong : ChangeSpec := { name := "quotientMaps", fn := fun _ => fun
  | [d1, d2, d3] => { results := [.lit (.bool false)], args := [d1, d2, d3] }
  | _ => none }
def QuotientMapsWrongFalsely : Prop := quotientMapsRow.holds Try.pinned (OpenSpec.ofChange quotientMapsWrong)

/- THE SECOND FORM. 'bulk': how many values and letters a reading holds, each counted each time it is reached (what is shared counts as often as it is met; a slice's spare places count too). A statement '..UptoSaid' is the law's where the arguments, and the package variables that the reading takes, are together of bulk at most 1048576: NARROWER than '..Said'. Prove '..Said' where nothing that the law and all that it calls make is longer than what came in: it says more and counts as full. Else prove '..UptoSaid'. A law counts once. -/
mutual
def uptoBulk {H : Type} : DataW H → Nat
  | .lit (.string bytes) => bytes.length + 1
  | .lit _ => 1
  | .nil => 1
  | .ptr d => uptoBulk d + 1
  | .slice elems spare => uptoBulkAll elems + uptoBulkAll spare + 1
  | .agg parts => uptoBulkAll parts + 1
  | .iface _ d => uptoBulk d + 1
  | .map entries => uptoBulkEntries entries + 1
  | .held _ => 1
def uptoBulkAll {H : Type} : List (DataW H) → Nat
  | [] => 0
  | d :: r => uptoBulk d + uptoBulkAll r
def uptoBulkEntries {H : Type} : List (Lit × DataW H) → Nat
  | [] => 0
  | x :: r => uptoBulkEntry x + uptoBulkEntries r
def uptoBulkEntry {H : Type} : Lit × DataW H → Nat
  | (.string bytes, d) => bytes.length + uptoBulk d + 1
  | (_, d) => uptoBulk d + 1
 end
def uptoSmall : (H : Type) → List (DataW H) → Bool := fun _ ds => decide (uptoBulkAll ds ≤ 1048576)
def OpenSpec.upto (s : _root_.Go.ChangeSpec) : _root_.Go.OpenSpec := { _root_.Go.OpenSpec.ofChange s with cond := some uptoSmall }

/-- 'hasselaw.ImplyGuigues', WHERE WHAT IT READS IS OF BULK AT MOST 1048576: true; the input reads as it did. -/
def implyGuiguesUptoRow : OpenClaim := { program := "ytdbngpkbamhbeaa", sum := "372b562bce4c2bc8ef45014bdf305ca1374d717383f1fc1b91f3e86c51555936", func := "hasse/hasselaw.ImplyGuigues", spec := "implyGuigues", unfollowed := true, recurses := true, apart := false, narrowed := true }
def ImplyGuiguesUptoSaid : Prop := implyGuiguesUptoRow.holds Try.pinned (OpenSpec.upto implyGuiguesSpec)

/-- 'hasselaw.ImplyOf', WHERE WHAT IT READS IS OF BULK AT MOST 1048576: true; the input reads as it did. -/
def implyOfUptoRow : OpenClaim := { program := "ytdbngpkbamhbeaa", sum := "372b562bce4c2bc8ef45014bdf305ca1374d717383f1fc1b91f3e86c51555936", func := "hasse/hasselaw.ImplyOf", spec := "implyOf", unfollowed := true, recurses := true, apart := false, narrowed := true }
def ImplyOfUptoSaid : Prop := implyOfUptoRow.holds Try.pinned (OpenSpec.upto implyOfSpec)

/-- 'hasselaw.ImplyObeyed', WHERE WHAT IT READS IS OF BULK AT MOST 1048576: true; the input reads as it did. -/
def implyObeyedUptoRow : OpenClaim := { program := "ytdbngpkbamhbeaa", sum := "372b562bce4c2bc8ef45014bdf305ca1374d717383f1fc1b91f3e86c51555936", func := "hasse/hasselaw.ImplyObeyed", spec := "implyObeyed", unfollowed := true, recurses := true, apart := false, narrowed := true }
def ImplyObeyedUptoSaid : Prop := implyObeyedUptoRow.holds Try.pinned (OpenSpec.upto implyObeyedSpec)

/-- 'hasselaw.RealizeOf', WHERE WHAT IT READS IS OF BULK AT MOST 1048576: true; the input reads as it did. -/
def realizeOfUptoRow : OpenClaim := { program := "ytdbngpkbamhbeaa", sum := "372b562bce4c2bc8ef45014bdf305ca1374d717383f1fc1b91f3e86c51555936", func := "hasse/hasselaw.RealizeOf", spec := "realizeOf", unfollowed := true, recurses := true, apart := false, narrowed := true }
def RealizeOfUptoSaid : Prop := realizeOfUptoRow.holds Try.pinned (OpenSpec.upto realizeOfSpec)

/-- 'hasselaw.QuotientAll', WHERE WHAT IT READS IS OF BULK AT MOST 1048576: true; the input reads as it did. -/
def quotientAllUptoRow : OpenClaim := { program := "ytdbngpkbamhbeaa", sum := "372b562bce4c2bc8ef45014bdf305ca1374d717383f1fc1b91f3e86c51555936", func := "hasse/hasselaw.QuotientAll", spec := "quotientAll", unfollowed := true, recurses := true, apart := false, narrowed := true }
def QuotientAllUptoSaid : Prop := quotientAllUptoRow.holds Try.pinned (OpenSpec.upto quotientAllSpec)

/-- 'hasselaw.QuotientLeast', WHERE WHAT IT READS IS OF BULK AT MOST 1048576: true; the input reads as it did. -/
def quotientLeastUptoRow : OpenClaim := { program := "ytdbngpkbamhbeaa", sum := "372b562bce4c2bc8ef45014bdf305ca1374d717383f1fc1b91f3e86c51555936", func := "hasse/hasselaw.QuotientLeast", spec := "quotientLeast", unfollowed := true, recurses := true, apart := false, narrowed := true }
def QuotientLeastUptoSaid : Prop := quotientLeastUptoRow.holds Try.pinned (OpenSpec.upto quotientLeastSpec)

/-- 'hasselaw.QuotientSimple', WHERE WHAT IT READS IS OF BULK AT MOST 1048576: true; the input reads as it did. -/
def quotientSimpleUptoRow : OpenClaim := { program := "ytdbngpkbamhbeaa", sum := "372b562bce4c2bc8ef45014bdf305ca1374d717383f1fc1b91f3e86c51555936", func := "hasse/hasselaw.QuotientSimple", spec := "quotientSimple", unfollowed := true, recurses := true, apart := false, narrowed := true }
def QuotientSimpleUptoSaid : Prop := quotientSimpleUptoRow.holds Try.pinned (OpenSpec.upto quotientSimpleSpec)

/-- 'hasselaw.QuotientChecks', WHERE WHAT IT READS IS OF BULK AT MOST 1048576: true; the input reads as it did. -/
def quotientChecksUptoRow : OpenClaim := { program := "ytdbngpkbamhbeaa", sum := "372b562bce4c2bc8ef45014bdf305ca1374d717383f1fc1b91f3e86c51555936", func := "hasse/hasselaw.QuotientChecks", spec := "quotientChecks", unfollowed := true, recurses := true, apart := false, narrowed := true }
def QuotientChecksUptoSaid : Prop := quotientChecksUptoRow.holds Try.pinned (OpenSpec.upto quotientChecksSpec)

/-- 'hasselaw.QuotientSmallest', WHERE WHAT IT READS IS OF BULK AT MOST 1048576: true; the input reads as it did. -/
def quotientSmallestUptoRow : OpenClaim := { program := "ytdbngpkbamhbeaa", sum := "372b562bce4c2bc8ef45014bdf305ca1374d717383f1fc1b91f3e86c51555936", func := "hasse/hasselaw.QuotientSmallest", spec := "quotientSmallest", unfollowed := true, recurses := true, apart := false, narrowed := true }
def QuotientSmallestUptoSaid : Prop := quotientSmallestUptoRow.holds Try.pinned (OpenSpec.upto quotientSmallestSpec)

/-- 'hasselaw.QuotientFunayama', WHERE WHAT IT READS IS OF BULK AT MOST 1048576: true; the input reads as it did. -/
def quotientFunayamaUptoRow : OpenClaim := { program := "ytdbngpkbamhbeaa", sum := "372b562bce4c2bc8ef45014bdf305ca1374d717383f1fc1b91f3e86c51555936", func := "hasse/hasselaw.QuotientFunayama", spec := "quotientFunayama", unfollowed := true, recurses := true, apart := false, narrowed := true }
def QuotientFunayamaUptoSaid : Prop := quotientFunayamaUptoRow.holds Try.pinned (OpenSpec.upto quotientFunayamaSpec)

/-- 'hasselaw.QuotientBy', WHERE WHAT IT READS IS OF BULK AT MOST 1048576: true; the input reads as it did. -/
def quotientByUptoRow : OpenClaim := { program := "ytdbngpkbamhbeaa", sum := "372b562bce4c2bc8ef45014bdf305ca1374d717383f1fc1b91f3e86c51555936", func := "hasse/hasselaw.QuotientBy", spec := "quotientBy", unfollowed := true, recurses := true, apart := false, narrowed := true }
def QuotientByUptoSaid : Prop := quotientByUptoRow.holds Try.pinned (OpenSpec.upto quotientBySpec)

/-- 'hasselaw.QuotientMaps', WHERE WHAT IT READS IS OF BULK AT MOST 1048576: true; the input reads as it did. -/
def quotientMapsUptoRow : OpenClaim := { program := "ytdbngpkbamhbeaa", sum := "372b562bce4c2bc8ef45014bdf305ca1374d717383f1fc1b91f3e86c51555936", func := "hasse/hasselaw.QuotientMaps", spec := "quotientMaps", unfollowed := true, recurses := true, apart := false, narrowed := true }
def QuotientMapsUptoSaid : Prop := quotientMapsUptoRow.holds Try.pinned (OpenSpec.upto quotientMapsSpec)

end Rows
end Go.Proofs.Ytdbngpkbamhbeaa
