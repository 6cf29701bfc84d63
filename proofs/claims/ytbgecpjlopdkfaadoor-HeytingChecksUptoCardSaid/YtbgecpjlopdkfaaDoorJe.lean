import Derived.Test.YtbgecpjlopdkfaaDoorFm
import Derived.Test.YtbgecpjlopdkfaaDoorEngZj
import Derived.Test.YtbgecpjlopdkfaaDoorEngZd
set_option linter.unusedSimpArgs false
set_option linter.unusedVariables false
set_option linter.unusedSectionVars false
set_option maxRecDepth 20000
namespace Go.Proofs.YtbgecpjlopdkfaaDoor
attribute [local irreducible] QOp aL aC qL
/-- Where a set stands. -/
def plc (S : List Nat) (s : Nat) : Int := idx (fun y => decide (y = (s : Int))) (nl S)
/-- A row of the lattice of sets, as far as k. -/
def mrow (S : List Nat) (op : Nat → Nat → Nat) (s k : Nat) : List Int := (S.take k).map fun t => plc S (op s t)
def mtab (S : List Nat) (op : Nat → Nat → Nat) (i : Nat) : List (List Int) := (S.take i).map fun s => mrow S op s S.length
end Go.Proofs.YtbgecpjlopdkfaaDoor
