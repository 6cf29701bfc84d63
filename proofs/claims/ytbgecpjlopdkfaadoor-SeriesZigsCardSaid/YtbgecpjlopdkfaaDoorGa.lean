import Derived.Test.YtbgecpjlopdkfaaDoorFc
import Derived.Test.YtbgecpjlopdkfaaDoorFd
set_option linter.unusedSimpArgs false
set_option linter.unusedVariables false
set_option linter.unusedSectionVars false
set_option maxRecDepth 20000
namespace Go.Proofs.YtbgecpjlopdkfaaDoor
attribute [local irreducible] QOp aL aC qL
/-- The set of the points below k of which p holds. -/
def bs (p : Nat → Bool) : Nat → Nat
  | 0 => 0
  | k + 1 => if p k = true then bs p k + 2 ^ k else bs p k
theorem bs_lt (p : Nat → Bool) : ∀ k, bs p k < 2 ^ k
  | 0 => by rw [bs]; decide
  | k + 1 => by
    have ih := bs_lt p k
    rw [bs, Nat.pow_succ]
    split <;> omega
theorem bs_bit (p : Nat → Bool) (j : Nat) : ∀ k, (bs p k).testBit j = (decide (j < k) && p j)
  | 0 => by rw [bs]; simp
  | k + 1 => by
    have ih := bs_bit p j k
    have hl := bs_lt p k
    rw [bs]
    split
    · rename_i h
      have e : bs p k + 2 ^ k = 2 ^ k ||| bs p k := by
        have := Nat.two_pow_add_eq_or_of_lt hl 1
        rw [Nat.mul_one] at this
        omega
      rw [e, Nat.testBit_or, Nat.testBit_two_pow, ih]
      by_cases hjk : j = k
      · subst hjk; rw [h]; simp
      · simp [Ne.symm hjk, show j < k + 1 ↔ j < k by omega]
    · rename_i h
      rw [ih]
      by_cases hjk : j = k
      · subst hjk; rw [Bool.eq_false_iff.2 h]; simp
      · simp [show j < k + 1 ↔ j < k by omega]
/-- The order of n points by what is below what. -/
def ofTo (n : Nat) (p : Nat → Nat → Bool) (k : Nat) : List Nat := (List.range k).map fun b => bs (fun a => p a b) n
def ofn (n : Nat) (p : Nat → Nat → Bool) : List Nat := ofTo n p n
end Go.Proofs.YtbgecpjlopdkfaaDoor
