/-
  No cell of these rows narrows 'for every input' (looked for: loops, veiled, ifaces, maps, wideKeys, modest, calm, conditions, laid).
  DERIVED. THE GIVEN ROWS OF THIS SEAT. 10 by the template 'for every input the law returns true; each argument reads behind the call as it read before'; 0 by the template 'total and deterministic' (their statements: YtkapohfnoflhlaaTotals.lean).
  GIVEN WITH THE SEED: the statements are not yours to turn. If you find one false, say at which input.
  Laid BY PROGRAM, IN A SANDBOX (cutbox-rows.mjs): the forced cells as the released guide's own fill.sh prints them over the translation 100a945f0440212d… (all of the seat's roots in one cut). By AI agents, Wed Nov 11 2026. No macro, syntax, notation, axiom, sorry.
-/
import Derived.Test.YtkapohfnoflhlaaChecked
import GoSem.Claim
import GoSem.ClaimJoined
import GoSem.ClaimMapViews
import Derived.JoinedTies
import Derived.KernelRfl
namespace Go.Proofs.Ytkapohfnoflhlaa
/- THE CELL 'sum', in the pinned program and in every row, IS THE sha256 OF THE DUMP (.gsa) THAT YtkapohfnoflhlaaProg.lean LOADS. Nothing in Lean hashes anything: it is a label: what it is worth is what the hold of that sum in a sandbox is worth. -/
noncomputable def Try.pinned : Pinned := { name := "ytkapohfnoflhlaa", sum := "100a945f0440212d01465dcfe497ae9b8e26c60be87424d8e9163468fc886b21", checked := Try.checked }
namespace Rows
def none {H : Type} : Left H := { results := [], args := [] }

/-- 'hasselaw.ImplyChecks': WHATEVER THE INPUT: true; the input reads as it did. -/
def implyChecksSpec : ChangeSpec := { name := "implyChecks", fn := fun _ => fun
  | [d1, d2] => { results := [.lit (.bool true)], args := [d1, d2] }
  | _ => none }
def implyChecksRow : OpenClaim := { program := "ytkapohfnoflhlaa", sum := "100a945f0440212d01465dcfe497ae9b8e26c60be87424d8e9163468fc886b21", func := "hasse/hasselaw.ImplyChecks", spec := "implyChecks", unfollowed := true, recurses := true, apart := false }
def ImplyChecksSaid : Prop := implyChecksRow.holds Try.pinned (OpenSpec.ofChange implyChecksSpec)

/-- ITS FALSE NEIGHBOUR: 'it returns false'. Refute it at one input. -/
def implyChecksWrong : ChangeSpec := { name := "implyChecks", fn := fun _ => fun
  | [d1, d2] => { results := [.lit (.bool false)], args := [d1, d2] }
  | _ => none }
def ImplyChecksWrongFalsely : Prop := implyChecksRow.holds Try.pinned (OpenSpec.ofChange implyChecksWrong)

/-- 'hasselaw.ImplyCloses': WHATEVER THE INPUT: true; the input reads as it did. -/
def implyClosesSpec : ChangeSpec := { name := "implyCloses", fn := fun _ => fun
  | [d1, d2, d3] => { results := [.lit (.bool true)], args := [d1, d2, d3] }
  | _ => none }
def implyClosesRow : OpenClaim := { program := "ytkapohfnoflhlaa", sum := "100a945f0440212d01465dcfe497ae9b8e26c60be87424d8e9163468fc886b21", func := "hasse/hasselaw.ImplyCloses", spec := "implyCloses", unfollowed := true, recurses := true, apart := false }
def ImplyClosesSaid : Prop := implyClosesRow.holds Try.pinned (OpenSpec.ofChange implyClosesSpec)

/-- ITS FALSE NEIGHBOUR: 'it returns false'. Refute it at one input. -/
def implyClosesWrong : ChangeSpec := { name := "implyCloses", fn := fun _ => fun
  | [d1, d2, d3] => { results := [.lit (.bool false)], args := [d1, d2, d3] }
  | _ => none }
def ImplyClosesWrongFalsely : Prop := implyClosesRow.holds Try.pinned (OpenSpec.ofChange implyClosesWrong)

/-- 'hasselaw.ImplyFollows': WHATEVER THE INPUT: true; the input reads as it did. -/
def implyFollowsSpec : ChangeSpec := { name := "implyFollows", fn := fun _ => fun
  | [d1, d2, d3] => { results := [.lit (.bool true)], args := [d1, d2, d3] }
  | _ => none }
def implyFollowsRow : OpenClaim := { program := "ytkapohfnoflhlaa", sum := "100a945f0440212d01465dcfe497ae9b8e26c60be87424d8e9163468fc886b21", func := "hasse/hasselaw.ImplyFollows", spec := "implyFollows", unfollowed := true, recurses := true, apart := false }
def ImplyFollowsSaid : Prop := implyFollowsRow.holds Try.pinned (OpenSpec.ofChange implyFollowsSpec)

/-- ITS FALSE NEIGHBOUR: 'it returns false'. Refute it at one input. -/
def implyFollowsWrong : ChangeSpec := { name := "implyFollows", fn := fun _ => fun
  | [d1, d2, d3] => { results := [.lit (.bool false)], args := [d1, d2, d3] }
  | _ => none }
def ImplyFollowsWrongFalsely : Prop := implyFollowsRow.holds Try.pinned (OpenSpec.ofChange implyFollowsWrong)

/-- 'hasselaw.ImplyKeys': WHATEVER THE INPUT: true; the input reads as it did. -/
def implyKeysSpec : ChangeSpec := { name := "implyKeys", fn := fun _ => fun
  | [d1, d2] => { results := [.lit (.bool true)], args := [d1, d2] }
  | _ => none }
def implyKeysRow : OpenClaim := { program := "ytkapohfnoflhlaa", sum := "100a945f0440212d01465dcfe497ae9b8e26c60be87424d8e9163468fc886b21", func := "hasse/hasselaw.ImplyKeys", spec := "implyKeys", unfollowed := true, recurses := true, apart := false }
def ImplyKeysSaid : Prop := implyKeysRow.holds Try.pinned (OpenSpec.ofChange implyKeysSpec)

/-- ITS FALSE NEIGHBOUR: 'it returns false'. Refute it at one input. -/
def implyKeysWrong : ChangeSpec := { name := "implyKeys", fn := fun _ => fun
  | [d1, d2] => { results := [.lit (.bool false)], args := [d1, d2] }
  | _ => none }
def ImplyKeysWrongFalsely : Prop := implyKeysRow.holds Try.pinned (OpenSpec.ofChange implyKeysWrong)

/-- 'hasselaw.ImplyArmstrong': WHATEVER THE INPUT: true; the input reads as it did. -/
def implyArmstrongSpec : ChangeSpec := { name := "implyArmstrong", fn := fun _ => fun
  | [d1, d2, d3, d4] => { results := [.lit (.bool true)], args := [d1, d2, d3, d4] }
  | _ => none }
def implyArmstrongRow : OpenClaim := { program := "ytkapohfnoflhlaa", sum := "100a945f0440212d01465dcfe497ae9b8e26c60be87424d8e9163468fc886b21", func := "hasse/hasselaw.ImplyArmstrong", spec := "implyArmstrong", unfollowed := true, recurses := true, apart := false }
def ImplyArmstrongSaid : Prop := implyArmstrongRow.holds Try.pinned (OpenSpec.ofChange implyArmstrongSpec)

/-- ITS FALSE NEIGHBOUR: 'it returns false'. Refute it at one input. -/
def implyArmstrongWrong : ChangeSpec := { name := "implyArmstrong", fn := fun _ => fun
  | [d1, d2, d3, d4] => { results := [.lit (.bool false)], args := [d1, d2, d3, d4] }
  | _ => none }
def ImplyArmstrongWrongFalsely : Prop := implyArmstrongRow.holds Try.pinned (OpenSpec.ofChange implyArmstrongWrong)

/-- 'hasselaw.ImplyBases': WHATEVER THE INPUT: true; the input reads as it did. -/
def implyBasesSpec : ChangeSpec := { name := "implyBases", fn := fun _ => fun
  | [d1, d2] => { results := [.lit (.bool true)], args := [d1, d2] }
  | _ => none }
def implyBasesRow : OpenClaim := { program := "ytkapohfnoflhlaa", sum := "100a945f0440212d01465dcfe497ae9b8e26c60be87424d8e9163468fc886b21", func := "hasse/hasselaw.ImplyBases", spec := "implyBases", unfollowed := true, recurses := true, apart := false }
def ImplyBasesSaid : Prop := implyBasesRow.holds Try.pinned (OpenSpec.ofChange implyBasesSpec)

/-- ITS FALSE NEIGHBOUR: 'it returns false'. Refute it at one input. -/
def implyBasesWrong : ChangeSpec := { name := "implyBases", fn := fun _ => fun
  | [d1, d2] => { results := [.lit (.bool false)], args := [d1, d2] }
  | _ => none }
def ImplyBasesWrongFalsely : Prop := implyBasesRow.holds Try.pinned (OpenSpec.ofChange implyBasesWrong)

/-- 'hasselaw.ImplyOf': WHATEVER THE INPUT: true; the input reads as it did. -/
def implyOfSpec : ChangeSpec := { name := "implyOf", fn := fun _ => fun
  | [d] => { results := [.lit (.bool true)], args := [d] }
  | _ => none }
def implyOfRow : OpenClaim := { program := "ytkapohfnoflhlaa", sum := "100a945f0440212d01465dcfe497ae9b8e26c60be87424d8e9163468fc886b21", func := "hasse/hasselaw.ImplyOf", spec := "implyOf", unfollowed := true, recurses := true, apart := false }
def ImplyOfSaid : Prop := implyOfRow.holds Try.pinned (OpenSpec.ofChange implyOfSpec)

/-- ITS FALSE NEIGHBOUR: 'it returns false'. Refute it at one input. -/
def implyOfWrong : ChangeSpec := { name := "implyOf", fn := fun _ => fun
  | [d] => { results := [.lit (.bool false)], args := [d] }
  | _ => none }
def ImplyOfWrongFalsely : Prop := implyOfRow.holds Try.pinned (OpenSpec.ofChange implyOfWrong)

/-- 'hasselaw.ImplyGuigues': WHATEVER THE INPUT: true; the input reads as it did. -/
def implyGuiguesSpec : ChangeSpec := { name := "implyGuigues", fn := fun _ => fun
  | [d1, d2] => { results := [.lit (.bool true)], args := [d1, d2] }
  | _ => none }
def implyGuiguesRow : OpenClaim := { program := "ytkapohfnoflhlaa", sum := "100a945f0440212d01465dcfe497ae9b8e26c60be87424d8e9163468fc886b21", func := "hasse/hasselaw.ImplyGuigues", spec := "implyGuigues", unfollowed := true, recurses := true, apart := false }
def ImplyGuiguesSaid : Prop := implyGuiguesRow.holds Try.pinned (OpenSpec.ofChange implyGuiguesSpec)

/-- ITS FALSE NEIGHBOUR: 'it returns false'. Refute it at one input. -/
def implyGuiguesWrong : ChangeSpec := { name := "implyGuigues", fn := fun _ => fun
  | [d1, d2] => { results := [.lit (.bool false)], args := [d1, d2] }
  | _ => none }
def ImplyGuiguesWrongFalsely : Prop := implyGuiguesRow.holds Try.pinned (OpenSpec.ofChange implyGuiguesWrong)

/-- 'hasselaw.ImplyObeyed': WHATEVER THE INPUT: true; the input reads as it did. -/
def implyObeyedSpec : ChangeSpec := { name := "implyObeyed", fn := fun _ => fun
  | [d1, d2] => { results := [.lit (.bool true)], args := [d1, d2] }
  | _ => none }
def implyObeyedRow : OpenClaim := { program := "ytkapohfnoflhlaa", sum := "100a945f0440212d01465dcfe497ae9b8e26c60be87424d8e9163468fc886b21", func := "hasse/hasselaw.ImplyObeyed", spec := "implyObeyed", unfollowed := true, recurses := true, apart := false }
def ImplyObeyedSaid : Prop := implyObeyedRow.holds Try.pinned (OpenSpec.ofChange implyObeyedSpec)

/-- ITS FALSE NEIGHBOUR: 'it returns false'. Refute it at one input. -/
def implyObeyedWrong : ChangeSpec := { name := "implyObeyed", fn := fun _ => fun
  | [d1, d2] => { results := [.lit (.bool false)], args := [d1, d2] }
  | _ => none }
def ImplyObeyedWrongFalsely : Prop := implyObeyedRow.holds Try.pinned (OpenSpec.ofChange implyObeyedWrong)

/-- 'hasselaw.RealizeOf': WHATEVER THE INPUT: true; the input reads as it did. -/
def realizeOfSpec : ChangeSpec := { name := "realizeOf", fn := fun _ => fun
  | [d1, d2] => { results := [.lit (.bool true)], args := [d1, d2] }
  | _ => none }
def realizeOfRow : OpenClaim := { program := "ytkapohfnoflhlaa", sum := "100a945f0440212d01465dcfe497ae9b8e26c60be87424d8e9163468fc886b21", func := "hasse/hasselaw.RealizeOf", spec := "realizeOf", unfollowed := true, recurses := true, apart := false }
def RealizeOfSaid : Prop := realizeOfRow.holds Try.pinned (OpenSpec.ofChange realizeOfSpec)

/-- ITS FALSE NEIGHBOUR: 'it returns false'. Refute it at one input. -/
def realizeOfWrong : ChangeSpec := { name := "realizeOf", fn := fun _ => fun
  | [d1, d2] => { results := [.lit (.bool false)], args := [d1, d2] }
  | _ => none }
def RealizeOfWrongFalsely : Prop := realizeOfRow.holds Try.pinned (OpenSpec.ofChange realizeOfWrong)

/- THE SECOND FORM. 'bulk': how many values and letters a reading holds, each counted each time it is reached (what is shared counts as often as it is met; a slice's spare places count too). A statement '..UptoSaid' is the law's where the arguments, and the package variables that the reading takes, are together of bulk at most 1048576: NARROWER than '..Said'. Prove '..Said' where nothing that the law and all that it calls make is longer than what came in: it says more and counts as full. Else prove '..UptoSaid'. A law counts once. -/
mutual
def uptoBulk {H : Type} : DataW H → Nat
  | .lit (.string bytes) => bytes.length + 1
  | .lit _ => 1
  | .nil => 1
  | .ptr d => uptoBulk d + 1
  | .slice elems spare => uptoBulkAll elems + uptoBulkAll spare + 1
  | .agg parts => uptoBulkAll parts + 1
  | .iface _ d => uptoBulk d + 1
  | .map entries => uptoBulkEntries entries + 1
  | .held _ => 1
def uptoBulkAll {H : Type} : List (DataW H) → Nat
  | [] => 0
  | d :: r => uptoBulk d + uptoBulkAll r
def uptoBulkEntries {H : Type} : List (Lit × DataW H) → Nat
  | [] => 0
  | x :: r => uptoBulkEntry x + uptoBulkEntries r
def uptoBulkEntry {H : Type} : Lit × DataW H → Nat
  | (.string bytes, d) => bytes.length + uptoBulk d + 1
  | (_, d) => uptoBulk d + 1
 end
def uptoSmall : (H : Type) → List (DataW H) → Bool := fun _ ds => decide (uptoBulkAll ds ≤ 1048576)
def OpenSpec.upto (s : _root_.Go.ChangeSpec) : _root_.Go.OpenSpec := { _root_.Go.OpenSpec.ofChange s with cond := some uptoSmall }

/-- 'hasselaw.ImplyChecks', WHERE WHAT IT READS IS OF BULK AT MOST 1048576: true; the input reads as it did. -/
def implyChecksUptoRow : OpenClaim := { program := "ytkapohfnoflhlaa", sum := "100a945f0440212d01465dcfe497ae9b8e26c60be87424d8e9163468fc886b21", func := "hasse/hasselaw.ImplyChecks", spec := "implyChecks", unfollowed := true, recurses := true, apart := false, narrowed := true }
def ImplyChecksUptoSaid : Prop := implyChecksUptoRow.holds Try.pinned (OpenSpec.upto implyChecksSpec)

/-- 'hasselaw.ImplyCloses', WHERE WHAT IT READS IS OF BULK AT MOST 1048576: true; the input reads as it did. -/
def implyClosesUptoRow : OpenClaim := { program := "ytkapohfnoflhlaa", sum := "100a945f0440212d01465dcfe497ae9b8e26c60be87424d8e9163468fc886b21", func := "hasse/hasselaw.ImplyCloses", spec := "implyCloses", unfollowed := true, recurses := true, apart := false, narrowed := true }
def ImplyClosesUptoSaid : Prop := implyClosesUptoRow.holds Try.pinned (OpenSpec.upto implyClosesSpec)

/-- 'hasselaw.ImplyFollows', WHERE WHAT IT READS IS OF BULK AT MOST 1048576: true; the input reads as it did. -/
def implyFollowsUptoRow : OpenClaim := { program := "ytkapohfnoflhlaa", sum := "100a945f0440212d01465dcfe497ae9b8e26c60be87424d8e9163468fc886b21", func := "hasse/hasselaw.ImplyFollows", spec := "implyFollows", unfollowed := true, recurses := true, apart := false, narrowed := true }
def ImplyFollowsUptoSaid : Prop := implyFollowsUptoRow.holds Try.pinned (OpenSpec.upto implyFollowsSpec)

/-- 'hasselaw.ImplyKeys', WHERE WHAT IT READS IS OF BULK AT MOST 1048576: true; the input reads as it did. -/
def implyKeysUptoRow : OpenClaim := { program := "ytkapohfnoflhlaa", sum := "100a945f0440212d01465dcfe497ae9b8e26c60be87424d8e9163468fc886b21", func := "hasse/hasselaw.ImplyKeys", spec := "implyKeys", unfollowed := true, recurses := true, apart := false, narrowed := true }
def ImplyKeysUptoSaid : Prop := implyKeysUptoRow.holds Try.pinned (OpenSpec.upto implyKeysSpec)

/-- 'hasselaw.ImplyArmstrong', WHERE WHAT IT READS IS OF BULK AT MOST 1048576: true; the input reads as it did. -/
def implyArmstrongUptoRow : OpenClaim := { program := "ytkapohfnoflhlaa", sum := "100a945f0440212d01465dcfe497ae9b8e26c60be87424d8e9163468fc886b21", func := "hasse/hasselaw.ImplyArmstrong", spec := "implyArmstrong", unfollowed := true, recurses := true, apart := false, narrowed := true }
def ImplyArmstrongUptoSaid : Prop := implyArmstrongUptoRow.holds Try.pinned (OpenSpec.upto implyArmstrongSpec)

/-- 'hasselaw.ImplyBases', WHERE WHAT IT READS IS OF BULK AT MOST 1048576: true; the input reads as it did. -/
def implyBasesUptoRow : OpenClaim := { program := "ytkapohfnoflhlaa", sum := "100a945f0440212d01465dcfe497ae9b8e26c60be87424d8e9163468fc886b21", func := "hasse/hasselaw.ImplyBases", spec := "implyBases", unfollowed := true, recurses := true, apart := false, narrowed := true }
def ImplyBasesUptoSaid : Prop := implyBasesUptoRow.holds Try.pinned (OpenSpec.upto implyBasesSpec)

/-- 'hasselaw.ImplyOf', WHERE WHAT IT READS IS OF BULK AT MOST 1048576: true; the input reads as it did. -/
def implyOfUptoRow : OpenClaim := { program := "ytkapohfnoflhlaa", sum := "100a945f0440212d01465dcfe497ae9b8e26c60be87424d8e9163468fc886b21", func := "hasse/hasselaw.ImplyOf", spec := "implyOf", unfollowed := true, recurses := true, apart := false, narrowed := true }
def ImplyOfUptoSaid : Prop := implyOfUptoRow.holds Try.pinned (OpenSpec.upto implyOfSpec)

/-- 'hasselaw.ImplyGuigues', WHERE WHAT IT READS IS OF BULK AT MOST 1048576: true; the input reads as it did. -/
def implyGuiguesUptoRow : OpenClaim := { program := "ytkapohfnoflhlaa", sum := "100a945f0440212d01465dcfe497ae9b8e26c60be87424d8e9163468fc886b21", func := "hasse/hasselaw.ImplyGuigues", spec := "implyGuigues", unfollowed := true, recurses := true, apart := false, narrowed := true }
def ImplyGuiguesUptoSaid : Prop := implyGuiguesUptoRow.holds Try.pinned (OpenSpec.upto implyGuiguesSpec)

/-- 'hasselaw.ImplyObeyed', WHERE WHAT IT READS IS OF BULK AT MOST 1048576: true; the input reads as it did. -/
def implyObeyedUptoRow : OpenClaim := { program := "ytkapohfnoflhlaa", sum := "100a945f0440212d01465dcfe497ae9b8e26c60be87424d8e9163468fc886b21", func := "hasse/hasselaw.ImplyObeyed", spec := "implyObeyed", unfollowed := true, recurses := true, apart := false, narrowed := true }
def ImplyObeyedUptoSaid : Prop := implyObeyedUptoRow.holds Try.pinned (OpenSpec.upto implyObeyedSpec)

/-- 'hasselaw.RealizeOf', WHERE WHAT IT READS IS OF BULK AT MOST 1048576: true; the input reads as it did. -/
def realizeOfUptoRow : OpenClaim := { program := "ytkapohfnoflhlaa", sum := "100a945f0440212d01465dcfe497ae9b8e26c60be87424d8e9163468fc886b21", func := "hasse/hasselaw.RealizeOf", spec := "realizeOf", unfollowed := true, recurses := true, apart := false, narrowed := true }
def RealizeOfUptoSaid : Prop := realizeOfUptoRow.holds Try.pinned (OpenSpec.upto realizeOfSpec)

end Rows
end Go.Proofs.Ytkapohfnoflhlaa
