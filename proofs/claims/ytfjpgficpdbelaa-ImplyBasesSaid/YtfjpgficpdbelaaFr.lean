import Derived.Test.YtfjpgficpdbelaaFq
set_option linter.unusedSimpArgs false
set_option linter.unusedVariables false
set_option linter.unusedSectionVars false
set_option maxRecDepth 20000
namespace Go.Proofs.Ytfjpgficpdbelaa
attribute [local irreducible] QOp aL aC qL
theorem or_add_and (n : Nat) : ∀ (a b : Nat), a < 2 ^ n → a + b = (a ||| b) + (a &&& b) := by
  induction n with
  | zero => intro a b ha; obtain rfl : a = 0 := by simpa using ha
            simp
  | succ n ih =>
    intro a b ha
    have h1 := ih (a / 2) (b / 2) (by rw [Nat.pow_succ] at ha; omega)
    have h2 : (a ||| b) / 2 = a / 2 ||| b / 2 := Nat.or_div_two
    have h3 : (a &&& b) / 2 = a / 2 &&& b / 2 := Nat.and_div_two
    have h4 : (a ||| b) % 2 + (a &&& b) % 2 = a % 2 + b % 2 := by
      have e1 : (a ||| b) % 2 = 1 ↔ (a % 2 = 1 ∨ b % 2 = 1) := Nat.or_mod_two_eq_one
      have e2 : (a &&& b) % 2 = 1 ↔ (a % 2 = 1 ∧ b % 2 = 1) := Nat.and_mod_two_eq_one
      omega
    omega
end Go.Proofs.Ytfjpgficpdbelaa
