import Derived.Test.YtjepdcfiogjmgaaJe
set_option linter.unusedSimpArgs false
set_option linter.unusedVariables false
set_option maxRecDepth 20000
namespace Go.Proofs.Ytjepdcfiogjmgaa
attribute [local irreducible] QOp aL aC qL
attribute [local irreducible] FOp POp hL xH zL mrow mtab plc
theorem mtab_zero (S : List Nat) (op : Nat → Nat → Nat) : mtab S op 0 = [] := by unfold mtab; rfl
theorem mrow_zero (S : List Nat) (op : Nat → Nat → Nat) (s : Nat) : mrow S op s 0 = [] := by unfold mrow; rfl
end Go.Proofs.Ytjepdcfiogjmgaa
