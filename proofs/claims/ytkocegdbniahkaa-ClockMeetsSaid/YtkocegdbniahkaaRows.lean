/-
  No cell of these rows narrows 'for every input' (looked for: loops, veiled, ifaces, maps, wideKeys, modest, calm, conditions, laid).
  DERIVED. THE GIVEN ROWS OF THIS SEAT. 7 by the template 'for every input the law returns true; each argument reads behind the call as it read before'; 0 by the template 'total and deterministic' (their statements: YtkocegdbniahkaaTotals.lean).
  GIVEN WITH THE SEED: the statements are not yours to turn. If you find one false, say at which input.
  Laid BY PROGRAM, IN A SANDBOX (cutbox-rows.mjs): the forced cells as the released guide's own fill.sh prints them over the translation b03b2718e23f652f… (all of the seat's roots in one cut). By AI agents, Wed Nov 11 2026. No macro, syntax, notation, axiom, sorry.
-/
import Derived.Test.YtkocegdbniahkaaChecked
import GoSem.Claim
import GoSem.ClaimJoined
import GoSem.ClaimMapViews
import Derived.JoinedTies
import Derived.KernelRfl
namespace Go.Proofs.Ytkocegdbniahkaa
/- THE CELL 'sum', in the pinned program and in every row, IS THE sha256 OF THE DUMP (.gsa) THAT YtkocegdbniahkaaProg.lean LOADS. Nothing in Lean hashes anything: it is a label: what it is worth is what the hold of that sum in a sandbox is worth. -/
noncomputable def Try.pinned : Pinned := { name := "ytkocegdbniahkaa", sum := "b03b2718e23f652fdd09e191c81dda5700e9af799d65a4b1a601142f9584e27b", checked := Try.checked }
namespace Rows
def none {H : Type} : Left H := { results := [], args := [] }

/-- 'hasselaw.ClockChecks': WHATEVER THE INPUT: true; the input reads as it did. -/
def clockChecksSpec : ChangeSpec := { name := "clockChecks", fn := fun _ => fun
  | [d1, d2] => { results := [.lit (.bool true)], args := [d1, d2] }
  | _ => none }
def clockChecksRow : OpenClaim := { program := "ytkocegdbniahkaa", sum := "b03b2718e23f652fdd09e191c81dda5700e9af799d65a4b1a601142f9584e27b", func := "hasse/hasselaw.ClockChecks", spec := "clockChecks", unfollowed := true, recurses := true, apart := false }
def ClockChecksSaid : Prop := clockChecksRow.holds Try.pinned (OpenSpec.ofChange clockChecksSpec)

/-- ITS FALSE NEIGHBOUR: 'it returns false'. Refute it at one input. -/
def clockChecksWrong : ChangeSpec := { name := "clockChecks", fn := fun _ => fun
  | [d1, d2] => { results := [.lit (.bool false)], args := [d1, d2] }
  | _ => none }
def ClockChecksWrongFalsely : Prop := clockChecksRow.holds Try.pinned (OpenSpec.ofChange clockChecksWrong)

/-- 'hasselaw.ClockAhead': WHATEVER THE INPUT: true; the input reads as it did. -/
def clockAheadSpec : ChangeSpec := { name := "clockAhead", fn := fun _ => fun
  | [d1, d2] => { results := [.lit (.bool true)], args := [d1, d2] }
  | _ => none }
def clockAheadRow : OpenClaim := { program := "ytkocegdbniahkaa", sum := "b03b2718e23f652fdd09e191c81dda5700e9af799d65a4b1a601142f9584e27b", func := "hasse/hasselaw.ClockAhead", spec := "clockAhead", unfollowed := true, recurses := true, apart := false }
def ClockAheadSaid : Prop := clockAheadRow.holds Try.pinned (OpenSpec.ofChange clockAheadSpec)

/-- ITS FALSE NEIGHBOUR: 'it returns false'. Refute it at one input. -/
def clockAheadWrong : ChangeSpec := { name := "clockAhead", fn := fun _ => fun
  | [d1, d2] => { results := [.lit (.bool false)], args := [d1, d2] }
  | _ => none }
def ClockAheadWrongFalsely : Prop := clockAheadRow.holds Try.pinned (OpenSpec.ofChange clockAheadWrong)

/-- 'hasselaw.ClockTicks': WHATEVER THE INPUT: true; the input reads as it did. -/
def clockTicksSpec : ChangeSpec := { name := "clockTicks", fn := fun _ => fun
  | [d1, d2] => { results := [.lit (.bool true)], args := [d1, d2] }
  | _ => none }
def clockTicksRow : OpenClaim := { program := "ytkocegdbniahkaa", sum := "b03b2718e23f652fdd09e191c81dda5700e9af799d65a4b1a601142f9584e27b", func := "hasse/hasselaw.ClockTicks", spec := "clockTicks", unfollowed := true, recurses := true, apart := false }
def ClockTicksSaid : Prop := clockTicksRow.holds Try.pinned (OpenSpec.ofChange clockTicksSpec)

/-- ITS FALSE NEIGHBOUR: 'it returns false'. Refute it at one input. -/
def clockTicksWrong : ChangeSpec := { name := "clockTicks", fn := fun _ => fun
  | [d1, d2] => { results := [.lit (.bool false)], args := [d1, d2] }
  | _ => none }
def ClockTicksWrongFalsely : Prop := clockTicksRow.holds Try.pinned (OpenSpec.ofChange clockTicksWrong)

/-- 'hasselaw.ClockLost': WHATEVER THE INPUT: true; the input reads as it did. -/
def clockLostSpec : ChangeSpec := { name := "clockLost", fn := fun _ => fun
  | [d1, d2] => { results := [.lit (.bool true)], args := [d1, d2] }
  | _ => none }
def clockLostRow : OpenClaim := { program := "ytkocegdbniahkaa", sum := "b03b2718e23f652fdd09e191c81dda5700e9af799d65a4b1a601142f9584e27b", func := "hasse/hasselaw.ClockLost", spec := "clockLost", unfollowed := true, recurses := true, apart := false }
def ClockLostSaid : Prop := clockLostRow.holds Try.pinned (OpenSpec.ofChange clockLostSpec)

/-- ITS FALSE NEIGHBOUR: 'it returns false'. Refute it at one input. -/
def clockLostWrong : ChangeSpec := { name := "clockLost", fn := fun _ => fun
  | [d1, d2] => { results := [.lit (.bool false)], args := [d1, d2] }
  | _ => none }
def ClockLostWrongFalsely : Prop := clockLostRow.holds Try.pinned (OpenSpec.ofChange clockLostWrong)

/-- 'hasselaw.ClockLamport': WHATEVER THE INPUT: true; the input reads as it did. -/
def clockLamportSpec : ChangeSpec := { name := "clockLamport", fn := fun _ => fun
  | [d1, d2] => { results := [.lit (.bool true)], args := [d1, d2] }
  | _ => none }
def clockLamportRow : OpenClaim := { program := "ytkocegdbniahkaa", sum := "b03b2718e23f652fdd09e191c81dda5700e9af799d65a4b1a601142f9584e27b", func := "hasse/hasselaw.ClockLamport", spec := "clockLamport", unfollowed := true, recurses := true, apart := false }
def ClockLamportSaid : Prop := clockLamportRow.holds Try.pinned (OpenSpec.ofChange clockLamportSpec)

/-- ITS FALSE NEIGHBOUR: 'it returns false'. Refute it at one input. -/
def clockLamportWrong : ChangeSpec := { name := "clockLamport", fn := fun _ => fun
  | [d1, d2] => { results := [.lit (.bool false)], args := [d1, d2] }
  | _ => none }
def ClockLamportWrongFalsely : Prop := clockLamportRow.holds Try.pinned (OpenSpec.ofChange clockLamportWrong)

/-- 'hasselaw.ClockCuts': WHATEVER THE INPUT: true; the input reads as it did. -/
def clockCutsSpec : ChangeSpec := { name := "clockCuts", fn := fun _ => fun
  | [d1, d2] => { results := [.lit (.bool true)], args := [d1, d2] }
  | _ => none }
def clockCutsRow : OpenClaim := { program := "ytkocegdbniahkaa", sum := "b03b2718e23f652fdd09e191c81dda5700e9af799d65a4b1a601142f9584e27b", func := "hasse/hasselaw.ClockCuts", spec := "clockCuts", unfollowed := true, recurses := true, apart := false }
def ClockCutsSaid : Prop := clockCutsRow.holds Try.pinned (OpenSpec.ofChange clockCutsSpec)

/-- ITS FALSE NEIGHBOUR: 'it returns false'. Refute it at one input. -/
def clockCutsWrong : ChangeSpec := { name := "clockCuts", fn := fun _ => fun
  | [d1, d2] => { results := [.lit (.bool false)], args := [d1, d2] }
  | _ => none }
def ClockCutsWrongFalsely : Prop := clockCutsRow.holds Try.pinned (OpenSpec.ofChange clockCutsWrong)

/-- 'hasselaw.ClockMeets': WHATEVER THE INPUT: true; the input reads as it did. -/
def clockMeetsSpec : ChangeSpec := { name := "clockMeets", fn := fun _ => fun
  | [d1, d2, d3, d4] => { results := [.lit (.bool true)], args := [d1, d2, d3, d4] }
  | _ => none }
def clockMeetsRow : OpenClaim := { program := "ytkocegdbniahkaa", sum := "b03b2718e23f652fdd09e191c81dda5700e9af799d65a4b1a601142f9584e27b", func := "hasse/hasselaw.ClockMeets", spec := "clockMeets", unfollowed := true, recurses := true, apart := false }
def ClockMeetsSaid : Prop := clockMeetsRow.holds Try.pinned (OpenSpec.ofChange clockMeetsSpec)

/-- ITS FALSE NEIGHBOUR: 'it returns false'. Refute it at one input. -/
def clockMeetsWrong : ChangeSpec := { name := "clockMeets", fn := fun _ => fun
  | [d1, d2, d3, d4] => { results := [.lit (.bool false)], args := [d1, d2, d3, d4] }
  | _ => none }
def ClockMeetsWrongFalsely : Prop := clockMeetsRow.holds Try.pinned (OpenSpec.ofChange clockMeetsWrong)

/- THE SECOND FORM. 'bulk': how many values and letters a reading holds, each counted each time it is reached (what is shared counts as often as it is met; a slice's spare places count too). A statement '..UptoSaid' is the law's where the arguments, and the package variables that the reading takes, are together of bulk at most 1048576: NARROWER than '..Said'. Prove '..Said' where nothing that the law and all that it calls make is longer than what came in: it says more and counts as full. Else prove '..UptoSaid'. A law counts once. -/
mutual
def uptoBulk {H : Type} : DataW H → Nat
  | .lit (.string bytes) => bytes.length + 1
  | .lit _ => 1
  | .nil => 1
  | .ptr d => uptoBulk d + 1
  | .slice elems spare => uptoBulkAll elems + uptoBulkAll spare + 1
  | .agg parts => uptoBulkAll parts + 1
  | .iface _ d => uptoBulk d + 1
  | .map entries => uptoBulkEntries entries + 1
  | .held _ => 1
def uptoBulkAll {H : Type} : List (DataW H) → Nat
  | [] => 0
  | d :: r => uptoBulk d + uptoBulkAll r
def uptoBulkEntries {H : Type} : List (Lit × DataW H) → Nat
  | [] => 0
  | x :: r => uptoBulkEntry x + uptoBulkEntries r
def uptoBulkEntry {H : Type} : Lit × DataW H → Nat
  | (.string bytes, d) => bytes.length + uptoBulk d + 1
  | (_, d) => uptoBulk d + 1
 end
def uptoSmall : (H : Type) → List (DataW H) → Bool := fun _ ds => decide (uptoBulkAll ds ≤ 1048576)
def OpenSpec.upto (s : _root_.Go.ChangeSpec) : _root_.Go.OpenSpec := { _root_.Go.OpenSpec.ofChange s with cond := some uptoSmall }

/-- 'hasselaw.ClockChecks', WHERE WHAT IT READS IS OF BULK AT MOST 1048576: true; the input reads as it did. -/
def clockChecksUptoRow : OpenClaim := { program := "ytkocegdbniahkaa", sum := "b03b2718e23f652fdd09e191c81dda5700e9af799d65a4b1a601142f9584e27b", func := "hasse/hasselaw.ClockChecks", spec := "clockChecks", unfollowed := true, recurses := true, apart := false, narrowed := true }
def ClockChecksUptoSaid : Prop := clockChecksUptoRow.holds Try.pinned (OpenSpec.upto clockChecksSpec)

/-- 'hasselaw.ClockAhead', WHERE WHAT IT READS IS OF BULK AT MOST 1048576: true; the input reads as it did. -/
def clockAheadUptoRow : OpenClaim := { program := "ytkocegdbniahkaa", sum := "b03b2718e23f652fdd09e191c81dda5700e9af799d65a4b1a601142f9584e27b", func := "hasse/hasselaw.ClockAhead", spec := "clockAhead", unfollowed := true, recurses := true, apart := false, narrowed := true }
def ClockAheadUptoSaid : Prop := clockAheadUptoRow.holds Try.pinned (OpenSpec.upto clockAheadSpec)

/-- 'hasselaw.ClockTicks', WHERE WHAT IT READS IS OF BULK AT MOST 1048576: true; the input reads as it did. -/
def clockTicksUptoRow : OpenClaim := { program := "ytkocegdbniahkaa", sum := "b03b2718e23f652fdd09e191c81dda5700e9af799d65a4b1a601142f9584e27b", func := "hasse/hasselaw.ClockTicks", spec := "clockTicks", unfollowed := true, recurses := true, apart := false, narrowed := true }
def ClockTicksUptoSaid : Prop := clockTicksUptoRow.holds Try.pinned (OpenSpec.upto clockTicksSpec)

/-- 'hasselaw.ClockLost', WHERE WHAT IT READS IS OF BULK AT MOST 1048576: true; the input reads as it did. -/
def clockLostUptoRow : OpenClaim := { program := "ytkocegdbniahkaa", sum := "b03b2718e23f652fdd09e191c81dda5700e9af799d65a4b1a601142f9584e27b", func := "hasse/hasselaw.ClockLost", spec := "clockLost", unfollowed := true, recurses := true, apart := false, narrowed := true }
def ClockLostUptoSaid : Prop := clockLostUptoRow.holds Try.pinned (OpenSpec.upto clockLostSpec)

/-- 'hasselaw.ClockLamport', WHERE WHAT IT READS IS OF BULK AT MOST 1048576: true; the input reads as it did. -/
def clockLamportUptoRow : OpenClaim := { program := "ytkocegdbniahkaa", sum := "b03b2718e23f652fdd09e191c81dda5700e9af799d65a4b1a601142f9584e27b", func := "hasse/hasselaw.ClockLamport", spec := "clockLamport", unfollowed := true, recurses := true, apart := false, narrowed := true }
def ClockLamportUptoSaid : Prop := clockLamportUptoRow.holds Try.pinned (OpenSpec.upto clockLamportSpec)

/-- 'hasselaw.ClockCuts', WHERE WHAT IT READS IS OF BULK AT MOST 1048576: true; the input reads as it did. -/
def clockCutsUptoRow : OpenClaim := { program := "ytkocegdbniahkaa", sum := "b03b2718e23f652fdd09e191c81dda5700e9af799d65a4b1a601142f9584e27b", func := "hasse/hasselaw.ClockCuts", spec := "clockCuts", unfollowed := true, recurses := true, apart := false, narrowed := true }
def ClockCutsUptoSaid : Prop := clockCutsUptoRow.holds Try.pinned (OpenSpec.upto clockCutsSpec)

/-- 'hasselaw.ClockMeets', WHERE WHAT IT READS IS OF BULK AT MOST 1048576: true; the input reads as it did. -/
def clockMeetsUptoRow : OpenClaim := { program := "ytkocegdbniahkaa", sum := "b03b2718e23f652fdd09e191c81dda5700e9af799d65a4b1a601142f9584e27b", func := "hasse/hasselaw.ClockMeets", spec := "clockMeets", unfollowed := true, recurses := true, apart := false, narrowed := true }
def ClockMeetsUptoSaid : Prop := clockMeetsUptoRow.holds Try.pinned (OpenSpec.upto clockMeetsSpec)

end Rows
end Go.Proofs.Ytkocegdbniahkaa
