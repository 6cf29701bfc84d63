import Derived.Test.YtbgecpjlopdkfaaDoorSra
import Derived.Test.YtbgecpjlopdkfaaDoorFn
import Derived.Test.YtbgecpjlopdkfaaDoorEngZm
set_option linter.unusedSimpArgs false
set_option linter.unusedVariables false
set_option linter.unusedSectionVars false
set_option maxRecDepth 20000
namespace Go.Proofs.YtbgecpjlopdkfaaDoor
attribute [local irreducible] QOp aL aC qL
/-- The entry of a table. -/
def ta (t : List (List Nat)) (x y : Nat) : Nat := (t.getD x []).getD y 0
def tn (t : List (List Nat)) : List (List Int) := t.map nl
structure Sq (n : Nat) (t : List (List Nat)) : Prop where
  len : t.length = n
  row : ∀ x, x < n → (t.getD x []).length = n
  lt : ∀ x y, x < n → y < n → ta t x y < n
def formB (N : Int) (t : List (List Int)) : Bool := decide ((t.length : Int) = N) && !t.any fun r => decide ((r.length : Int) ≠ N)
def badI (N : Int) (x : Int) : Bool := decide (x < 0 ∨ N ≤ x)
def badR (N : Int) (r : List Int) : Bool := r.any (badI N)
/-- The laws of one table beside the other one. -/
def LawT (n : Nat) (f g : Nat → Nat → Nat) : Prop := ∀ x, x < n → f x x = x ∧ ∀ y, y < n → f x y = f y x ∧ f x (g x y) = x ∧ ∀ z, z < n → f x (f y z) = f (f x y) z
instance (n : Nat) (f g : Nat → Nat → Nat) : Decidable (LawT n f g) := by unfold LawT; infer_instance
def lawB (n : Nat) (f g : Nat → Nat → Nat) : Bool := decide (LawT n f g) && decide (LawT n g f)
def tz (m : List (List Int)) : List (List Nat) := m.map fun r => r.map Int.toNat
def lck (N : Int) (m j : List (List Int)) : Int :=
  if N < 1 ∨ 40 < N then 2 else if (formB N m && formB N j) = false then 1 else if (m ++ j).any (badR N) = true then 3 else if lawB N.toNat (ta (tz m)) (ta (tz j)) = true then 0 else 4
end Go.Proofs.YtbgecpjlopdkfaaDoor
set_option linter.unusedSimpArgs false
set_option linter.unusedVariables false
set_option linter.unusedSectionVars false
set_option maxRecDepth 20000
namespace Go.Proofs.YtbgecpjlopdkfaaDoor
attribute [local irreducible] QOp aL aC qL
def czIq (m j : List (List Int)) (k : Nat) : Nat := if k = 0 then 0 else if k = 1 then m.length else m.length + j.length
def cc (m j : List (List Int)) (k : Nat) : List (List Int) := if k = 0 then [] else if k = 1 then m else m ++ j
def badLn (N : Int) (r : List Int) : Bool := decide ((r.length : Int) ≠ N)
end Go.Proofs.YtbgecpjlopdkfaaDoor
set_option linter.unusedSimpArgs false
set_option linter.unusedVariables false
set_option linter.unusedSectionVars false
set_option maxRecDepth 20000
namespace Go.Proofs.YtbgecpjlopdkfaaDoor
attribute [local irreducible] QOp aL aC qL
section
variable {P : Program} {st : St} {d : Option Tmp} {ty : TypeId} {pos : String} {af : Array Edge} {g : Option (Nat × Bool)}
def tw (M J : List (List Nat)) (i : Nat) : List (List Nat) := if i = 0 then M else J
end
def twl (n : Nat) (M J : List (List Nat)) (i : Nat) : Prop := LawT n (ta (tw M J i)) (ta (tw M J (1 - i)))
end Go.Proofs.YtbgecpjlopdkfaaDoor
