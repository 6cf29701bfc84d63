import Derived.Test.YtdbngpkbamhbeaaGr
import Derived.Test.YtdbngpkbamhbeaaEngT
import Derived.Test.YtdbngpkbamhbeaaEngZzc
import Derived.Test.YtdbngpkbamhbeaaEngZd
import Derived.Test.YtdbngpkbamhbeaaEngZf
import Derived.Test.YtdbngpkbamhbeaaGm
import Derived.Test.YtdbngpkbamhbeaaYw
import Derived.Test.YtdbngpkbamhbeaaXc
set_option linter.unusedSimpArgs false
set_option linter.unusedVariables false
set_option linter.unusedSectionVars false
set_option maxRecDepth 20000
namespace Go.Proofs.Ytdbngpkbamhbeaa
attribute [local irreducible] QOp aL aC qL
def cmpN (a b : Int) : Int := if a < b then -1 else if b < a then 1 else 0
attribute [local irreducible] FOp POp hL xH
end Go.Proofs.Ytdbngpkbamhbeaa
set_option linter.unusedSimpArgs false
set_option linter.unusedVariables false
set_option linter.unusedSectionVars false
set_option maxRecDepth 20000
namespace Go.Proofs.Ytdbngpkbamhbeaa
attribute [local irreducible] QOp aL aC qL
attribute [local irreducible] FOp POp hL xH
/-- What compares two numbers by their keys. -/
def CmpK (g : FuncId) (kf : Nat → Nat) : Prop := ∀ x y : Nat, x < 1024 → y < 1024 → AC Try.prog g [.val (.int .i64 (x : Nat)), .val (.int .i64 (y : Nat))] [] (.val (.int .i64 (cmpN (kf x : Nat) (kf y : Nat)))) []
def All10 (L : List Nat) : Prop := ∀ x ∈ L, x < 1024
theorem All10.get {L : List Nat} (h : All10 L) (i : Nat) : L.getD i 0 < 1024 := by
  rw [List.getD_eq_getElem?_getD]
  cases hq : L[i]? with
  | none => decide
  | some x => exact h x (List.mem_of_getElem? hq)
theorem All10.sm {a b : Nat} {L L' : List Nat} (h : All10 L) (g : Sm a b L L') : All10 L' := fun x hx => h x (g.pm.mem_iff.1 hx)
end Go.Proofs.Ytdbngpkbamhbeaa
set_option linter.unusedSimpArgs false
set_option linter.unusedVariables false
set_option linter.unusedSectionVars false
set_option maxRecDepth 20000
namespace Go.Proofs.Ytdbngpkbamhbeaa
attribute [local irreducible] QOp aL aC qL
attribute [local irreducible] FOp POp hL xH
variable {kf : Nat → Nat}
/-- What the merging of two stretches is. -/
def SymOk (g : FuncId) (kf : Nat → Nat) (f : Nat) : Prop := ∀ (L : List Nat) (a m b : Nat), a < m → m < b → b ≤ L.length → L.length ≤ 1024 → All10 L → b - a ≤ f → Srt kf a m L → Srt kf m b L →
    AC Try.prog 131 [.own 0, .val (.int .i64 (a : Nat)), .val (.int .i64 (m : Nat)), .val (.int .i64 (b : Nat)), .val (.func (.func g) #[] #[])] [.row 3 1 (intc (nl L))] (.tup []) [.row 3 1 (intc (nl (symF kf f a m b L)))]
end Go.Proofs.Ytdbngpkbamhbeaa
set_option linter.unusedSimpArgs false
set_option linter.unusedVariables false
set_option linter.unusedSectionVars false
set_option maxRecDepth 20000
namespace Go.Proofs.Ytdbngpkbamhbeaa
attribute [local irreducible] QOp aL aC qL
def obT (l : List (Nat × Nat)) (s k : Nat) : List Nat := (List.range k).filter fun t => sub s t && oba l t
def alT (L : List Nat) (i m : Nat) : Bool := (L.take m).all fun t => t.testBit i
end Go.Proofs.Ytdbngpkbamhbeaa
set_option linter.unusedSimpArgs false
set_option linter.unusedVariables false
set_option linter.unusedSectionVars false
set_option maxRecDepth 20000
namespace Go.Proofs.Ytdbngpkbamhbeaa
attribute [local irreducible] QOp aL aC qL
/-- A list of weights of the sets of n points. -/
def Wts (n : Nat) (f : List Int) : Prop := f.length = 2 ^ n ∧ ∀ w ∈ f, 0 ≤ w ∧ w ≤ 1000
theorem Wts.get {n : Nat} {f : List Int} (h : Wts n f) (s : Nat) : 0 ≤ f.getD s 0 ∧ f.getD s 0 ≤ 1000 := by
  rw [List.getD_eq_getElem?_getD]
  cases hk : f[s]? with
  | none => simp
  | some x => exact h.2 x (List.mem_of_getElem? hk)
def four (n : Nat) (a b c d : List Int) : Bool := (List.range (2 ^ n)).all fun s => (List.range (2 ^ n)).all fun t => !decide (a.getD s 0 * b.getD t 0 > c.getD (s ||| t) 0 * d.getD (s &&& t) 0)
end Go.Proofs.Ytdbngpkbamhbeaa
set_option linter.unusedSimpArgs false
set_option linter.unusedVariables false
set_option linter.unusedSectionVars false
set_option maxRecDepth 20000
namespace Go.Proofs.Ytdbngpkbamhbeaa
attribute [local irreducible] QOp aL aC qL
def cloT (n : Nat) (l : List (Nat × Nat)) (k : Nat) : List Nat := (List.range k).map (clo n l)
end Go.Proofs.Ytdbngpkbamhbeaa
set_option linter.unusedSimpArgs false
set_option linter.unusedVariables false
set_option linter.unusedSectionVars false
set_option maxRecDepth 20000
namespace Go.Proofs.Ytdbngpkbamhbeaa
attribute [local irreducible] QOp aL aC qL
/-- A set that is not closed, but is as far as the rules of smaller ones go. -/
def skO (cl : Nat → Nat) (T : List Nat) (s : Nat) : Bool := decide (cl s ≠ s) && T.all fun t => !sub t s || sub (cl t) s
def skT (cl : Nat → Nat) : Nat → List Nat
  | 0 => []
  | k + 1 => if skO cl (skT cl k) k = true then skT cl k ++ [k] else skT cl k
def skw (cl : Nat → Nat) (s : Nat) : Bool := skO cl (skT cl s) s
/-! Fewer marks. -/
/-- What the library has found so far. -/
def bsO (cl : Nat → Nat) (P : List Nat) (k : Nat) : List Nat := (P.take k).filter (skw cl)
end Go.Proofs.Ytdbngpkbamhbeaa
