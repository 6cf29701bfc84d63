import Derived.Test.YtkackilhfkicoaaDoorRm
set_option linter.unusedSimpArgs false
set_option linter.unusedVariables false
set_option linter.unusedSectionVars false
set_option maxRecDepth 20000
namespace Go.Proofs.YtkackilhfkicoaaDoor
/-! Both binomial laws that are wanted. -/
theorem bn_pas_all : ((List.range 44).all fun a => (List.range 12).all fun k => decide (bn ((a : Int) - 22) (k + 1) = bn ((a : Int) - 23) (k + 1) + bn ((a : Int) - 23) k)) = true := by decide +kernel
theorem bn_pas {z : Int} (h1 : -23 ≤ z) (h2 : z ≤ 20) {k : Nat} (hk : k ≤ 11) : bn (z + 1) (k + 1) = bn z (k + 1) + bn z k := by
  have h := List.all_eq_true.1 (List.all_eq_true.1 bn_pas_all (z + 23).toNat (List.mem_range.2 (by omega))) k (List.mem_range.2 (by omega))
  rw [decide_eq_true_eq, show (((z + 23).toNat : Nat) : Int) - 22 = z + 1 by omega, show (((z + 23).toNat : Nat) : Int) - 23 = z by omega] at h
  exact h
theorem bn_zero (k : Nat) : bn 0 (k + 1) = 0 := by
  induction k with
  | zero => rfl
  | succ k ih => rw [bn, ih]; simp
/-! Sums over those strictly within. -/
section
variable {n : Nat} {S : List Nat}
/-- Over the ones strictly within the j-th. -/
def inI (S : List Nat) (x : Nat → Int) (j : Nat) : Int := sumI (fun i => if ftB S neB i j = true then x i else 0) S.length
theorem sumTo_int (f : Nat → Nat) : ∀ k, ((sumTo f k : Nat) : Int) = sumI (fun i => (f i : Int)) k
  | 0 => rfl
  | k + 1 => by
    show ((sumTo f k + f k : Nat) : Int) = _
    rw [sumI_s, ← sumTo_int f k]; omega
/-- Numbers by binomial numbers. -/
def vI (S : List Nat) (z : Int) (K j : Nat) : Int := sumI (fun k => (wI S neB k j : Int) * bn z k) K
/-! Maps that rise or stay. -/
end
end Go.Proofs.YtkackilhfkicoaaDoor
