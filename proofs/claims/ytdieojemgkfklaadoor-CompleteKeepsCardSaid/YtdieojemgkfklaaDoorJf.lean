/- The lattice of sets: the program's word. -/
import Derived.Test.YtdieojemgkfklaaDoorJe
set_option linter.unusedSimpArgs false
set_option linter.unusedVariables false
set_option maxRecDepth 20000
namespace Go.Proofs.YtdieojemgkfklaaDoor
attribute [local irreducible] QOp aL aC qL
theorem plc_ac (S : List Nat) (s : Nat) (hl : S.length ≤ 40) : AC Tryd.prog 85 [ints (nl S), .val (.int .i64 s)] [] (.val (.int .i64 (plc S s))) [] := IndexV_ac (nl S) s (by rw [nl_len]; omega)
attribute [local irreducible] FOp POp hL xH zL mrow mtab plc
theorem mtab_zero (S : List Nat) (op : Nat → Nat → Nat) : mtab S op 0 = [] := by unfold mtab; rfl
theorem mrow_zero (S : List Nat) (op : Nat → Nat → Nat) (s : Nat) : mrow S op s 0 = [] := by unfold mrow; rfl
end Go.Proofs.YtdieojemgkfklaaDoor
