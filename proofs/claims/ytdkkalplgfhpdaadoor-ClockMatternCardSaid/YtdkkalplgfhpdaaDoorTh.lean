import Derived.Test.YtdkkalplgfhpdaaDoorFb
set_option linter.unusedSimpArgs false
set_option linter.unusedVariables false
set_option linter.unusedSectionVars false
set_option maxRecDepth 20000
namespace Go.Proofs.YtdkkalplgfhpdaaDoor
attribute [local irreducible] QOp aL aC qL
/-- How many of the first k numbers. -/
def cqN (p : Nat → Bool) : Nat → Nat
  | 0 => 0
  | k + 1 => if p k = true then cqN p k + 1 else cqN p k
def sqN (f : Nat → Nat) : Nat → Nat
  | 0 => 0
  | k + 1 => sqN f k + f k
theorem cqN_le (p : Nat → Bool) : ∀ k, cqN p k ≤ k
  | 0 => Nat.le_refl _
  | k + 1 => by have := cqN_le p k; rw [cqN]; split <;> omega
theorem sqN_le {f : Nat → Nat} {B : Nat} : ∀ {k : Nat}, (∀ i, i < k → f i ≤ B) → sqN f k ≤ k * B
  | 0, _ => by rw [sqN]; omega
  | k + 1, h => by
    have h1 := h k (by omega)
    have h2 := sqN_le (f := f) (B := B) (k := k) fun i hi => h i (by omega)
    rw [sqN, Nat.succ_mul]; omega
end Go.Proofs.YtdkkalplgfhpdaaDoor
