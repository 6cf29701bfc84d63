import Derived.Test.YtbgecpjlopdkfaaDoorEngZzc
set_option linter.unusedSimpArgs false
set_option linter.unusedVariables false
set_option linter.unusedSectionVars false
set_option maxRecDepth 20000
namespace Go.Proofs.YtbgecpjlopdkfaaDoor
attribute [local irreducible] QOp aL aC qL
/-! Plain. -/
def qdF (p : Nat → Bool) : Nat → Option Nat
  | 0 => none
  | k + 1 => match qdF p k with
    | some a => some a
    | none => if p k = true then some k else none
theorem qdF_none {p : Nat → Bool} : ∀ {k : Nat}, (∀ i, i < k → p i = false) → qdF p k = none
  | 0, _ => rfl
  | k + 1, h => by rw [qdF, qdF_none fun i hi => h i (by omega)]; show (if p k = true then some k else none) = none; rw [h k (by omega)]; rfl
theorem qdF_some {p : Nat → Bool} {i : Nat} (h1 : ∀ j, j < i → p j = false) (h2 : p i = true) : ∀ {k : Nat}, i < k → qdF p k = some i
  | k + 1, h => by
    by_cases hik : i = k
    · subst hik
      rw [qdF, qdF_none h1]; show (if p i = true then some i else none) = some i; rw [h2]; rfl
    · rw [qdF, qdF_some h1 h2 (by omega)]
def qdL (n k : Nat) : List Nat := [k / (n * n * n), k / (n * n) % n, k / n % n, k % n]
def qdD (a b c d : Nat) : Bool := decide (a ≠ b ∧ a ≠ c ∧ a ≠ d ∧ b ≠ c ∧ b ≠ d ∧ c ≠ d)
def qdB (n : Nat) (q : Nat → Nat → Nat → Nat → Bool) (k : Nat) : Bool := qdD (k / (n * n * n)) (k / (n * n) % n) (k / n % n) (k % n) && q (k / (n * n * n)) (k / (n * n) % n) (k / n % n) (k % n)
def qdR (n : Nat) (q : Nat → Nat → Nat → Nat → Bool) : List Nat := match qdF (qdB n q) (n * n * n * n) with
  | some k => qdL n k
  | none => []
def qdY (n : Nat) (q : Nat → Nat → Nat → Nat → Bool) : Bool := (qdF (qdB n q) (n * n * n * n)).isSome
theorem qd_hit {n : Nat} {q : Nat → Nat → Nat → Nat → Bool} {k : Nat} (hk : k < n * n * n * n) (h1 : ∀ j, j < k → qdB n q j = false) (h2 : qdB n q k = true) : qdR n q = qdL n k ∧ qdY n q = true := by
  unfold qdR qdY
  rw [qdF_some h1 h2 hk]
  exact ⟨rfl, rfl⟩
theorem qd_miss {n : Nat} {q : Nat → Nat → Nat → Nat → Bool} (h1 : ∀ j, j < n * n * n * n → qdB n q j = false) : qdR n q = [] ∧ qdY n q = false := by
  unfold qdR qdY
  rw [qdF_none h1]
  exact ⟨rfl, rfl⟩
end Go.Proofs.YtbgecpjlopdkfaaDoor
