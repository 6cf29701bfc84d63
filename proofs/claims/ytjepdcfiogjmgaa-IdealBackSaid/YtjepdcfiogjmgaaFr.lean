import Derived.Test.YtjepdcfiogjmgaaFo
set_option linter.unusedSimpArgs false
set_option linter.unusedVariables false
set_option maxRecDepth 20000
namespace Go.Proofs.Ytjepdcfiogjmgaa
attribute [local irreducible] QOp aL aC qL
/-- A list of weights of the sets of n points. -/
def Wts (n : Nat) (f : List Int) : Prop := f.length = 2 ^ n ∧ ∀ w ∈ f, 0 ≤ w ∧ w ≤ 1000
theorem Wts.get {n : Nat} {f : List Int} (h : Wts n f) (s : Nat) : 0 ≤ f.getD s 0 ∧ f.getD s 0 ≤ 1000 := by
  rw [List.getD_eq_getElem?_getD]
  cases hk : f[s]? with
  | none => simp
  | some x => exact h.2 x (List.mem_of_getElem? hk)
def four (n : Nat) (a b c d : List Int) : Bool := (List.range (2 ^ n)).all fun s => (List.range (2 ^ n)).all fun t => !decide (a.getD s 0 * b.getD t 0 > c.getD (s ||| t) 0 * d.getD (s &&& t) 0)
end Go.Proofs.Ytjepdcfiogjmgaa
set_option linter.unusedSimpArgs false
set_option linter.unusedVariables false
set_option maxRecDepth 20000
namespace Go.Proofs.Ytjepdcfiogjmgaa
attribute [local irreducible] QOp aL aC qL
theorem or_add_and (n : Nat) : ∀ (a b : Nat), a < 2 ^ n → a + b = (a ||| b) + (a &&& b) := by
  induction n with
  | zero => intro a b ha; obtain rfl : a = 0 := by simpa using ha
            simp
  | succ n ih =>
    intro a b ha
    have h1 := ih (a / 2) (b / 2) (by rw [Nat.pow_succ] at ha; omega)
    have h2 : (a ||| b) / 2 = a / 2 ||| b / 2 := Nat.or_div_two
    have h3 : (a &&& b) / 2 = a / 2 &&& b / 2 := Nat.and_div_two
    have h4 : (a ||| b) % 2 + (a &&& b) % 2 = a % 2 + b % 2 := by
      have e1 : (a ||| b) % 2 = 1 ↔ (a % 2 = 1 ∨ b % 2 = 1) := Nat.or_mod_two_eq_one
      have e2 : (a &&& b) % 2 = 1 ↔ (a % 2 = 1 ∧ b % 2 = 1) := Nat.and_mod_two_eq_one
      omega
    omega
end Go.Proofs.Ytjepdcfiogjmgaa
