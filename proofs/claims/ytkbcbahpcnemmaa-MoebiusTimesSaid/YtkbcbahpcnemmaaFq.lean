/- Products of two sets beside those of both together: the program's word and the reference's. -/
import Derived.Test.YtkbcbahpcnemmaaFp
set_option linter.unusedSimpArgs false
set_option linter.unusedVariables false
set_option linter.unusedSectionVars false
set_option maxRecDepth 20000
namespace Go.Proofs.Ytkbcbahpcnemmaa
attribute [local irreducible] QOp aL aC qL
/-- A list of weights of the sets of n points. -/
def Wts (n : Nat) (f : List Int) : Prop := f.length = 2 ^ n ∧ ∀ w ∈ f, 0 ≤ w ∧ w ≤ 1000
theorem Wts.get {n : Nat} {f : List Int} (h : Wts n f) (s : Nat) : 0 ≤ f.getD s 0 ∧ f.getD s 0 ≤ 1000 := by
  rw [List.getD_eq_getElem?_getD]
  cases hk : f[s]? with
  | none => simp
  | some x => exact h.2 x (List.mem_of_getElem? hk)
theorem mul_bd {x y : Int} (hx : 0 ≤ x ∧ x ≤ 1000) (hy : 0 ≤ y ∧ y ≤ 1000) : 0 ≤ x * y ∧ x * y ≤ 1000000 := by
  refine ⟨Int.mul_nonneg hx.1 hy.1, ?_⟩
  have := Int.mul_le_mul hx.2 hy.2 hy.1 (by decide)
  omega
def four (n : Nat) (a b c d : List Int) : Bool := (List.range (2 ^ n)).all fun s => (List.range (2 ^ n)).all fun t => !decide (a.getD s 0 * b.getD t 0 > c.getD (s ||| t) 0 * d.getD (s &&& t) 0)
theorem four_false {n : Nat} {a b c d : List Int} {s t : Nat} (hs : s < 2 ^ n) (ht : t < 2 ^ n) (h : a.getD s 0 * b.getD t 0 > c.getD (s ||| t) 0 * d.getD (s &&& t) 0) : four n a b c d = false := by
  rw [four, List.all_eq_false]
  refine ⟨s, List.mem_range.2 hs, ?_⟩
  rw [Bool.not_eq_true, List.all_eq_false]
  exact ⟨t, List.mem_range.2 ht, by rw [decide_eq_true h]; decide⟩
theorem four_true {n : Nat} {a b c d : List Int} (h : ∀ s, s < 2 ^ n → ∀ t, t < 2 ^ n → ¬ a.getD s 0 * b.getD t 0 > c.getD (s ||| t) 0 * d.getD (s &&& t) 0) : four n a b c d = true := by
  rw [four, List.all_eq_true]
  intro s hs
  rw [List.all_eq_true]
  intro t ht
  rw [decide_eq_false (h s (List.mem_range.1 hs) t (List.mem_range.1 ht))]
  rfl
end Go.Proofs.Ytkbcbahpcnemmaa
