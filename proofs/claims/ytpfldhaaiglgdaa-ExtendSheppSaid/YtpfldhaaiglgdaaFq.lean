import Derived.Test.YtpfldhaaiglgdaaFo
set_option linter.unusedSimpArgs false
set_option linter.unusedVariables false
set_option linter.unusedSectionVars false
set_option maxRecDepth 20000
namespace Go.Proofs.Ytpfldhaaiglgdaa
attribute [local irreducible] QOp aL aC qL
/-- A list of weights of the sets of n points. -/
def Wts (n : Nat) (f : List Int) : Prop := f.length = 2 ^ n ∧ ∀ w ∈ f, 0 ≤ w ∧ w ≤ 1000
theorem Wts.get {n : Nat} {f : List Int} (h : Wts n f) (s : Nat) : 0 ≤ f.getD s 0 ∧ f.getD s 0 ≤ 1000 := by
  rw [List.getD_eq_getElem?_getD]
  cases hk : f[s]? with
  | none => simp
  | some x => exact h.2 x (List.mem_of_getElem? hk)
def four (n : Nat) (a b c d : List Int) : Bool := (List.range (2 ^ n)).all fun s => (List.range (2 ^ n)).all fun t => !decide (a.getD s 0 * b.getD t 0 > c.getD (s ||| t) 0 * d.getD (s &&& t) 0)
end Go.Proofs.Ytpfldhaaiglgdaa
