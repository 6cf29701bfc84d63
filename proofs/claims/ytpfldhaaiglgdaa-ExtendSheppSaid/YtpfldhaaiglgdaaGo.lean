import Derived.Test.YtpfldhaaiglgdaaEngA
set_option linter.unusedSimpArgs false
set_option linter.unusedVariables false
set_option linter.unusedSectionVars false
set_option maxRecDepth 20000
namespace Go.Proofs.Ytpfldhaaiglgdaa
def sumTo (g : Nat → Nat) : Nat → Nat
  | 0 => 0
  | k + 1 => sumTo g k + g k
theorem sumTo_congr {g g' : Nat → Nat} : ∀ {k : Nat}, (∀ i, i < k → g i = g' i) → sumTo g k = sumTo g' k
  | 0, _ => rfl
  | k + 1, h => by
    show sumTo g k + g k = sumTo g' k + g' k
    rw [sumTo_congr (k := k) fun i hi => h i (by omega), h k (by omega)]
theorem sumTo_le {g : Nat → Nat} {M : Nat} (h : ∀ i, g i ≤ M) : ∀ k, sumTo g k ≤ k * M
  | 0 => by simp [sumTo]
  | k + 1 => by
    have := sumTo_le h k
    have := h k
    show sumTo g k + g k ≤ _
    rw [Nat.succ_mul]; omega
theorem sumTo_zero {g : Nat → Nat} : ∀ {k : Nat}, (∀ i, i < k → g i = 0) → sumTo g k = 0
  | 0, _ => rfl
  | k + 1, h => by
    show sumTo g k + g k = 0
    rw [sumTo_zero (k := k) fun i hi => h i (by omega), h k (by omega)]
theorem sumTo_pos {g : Nat → Nat} : ∀ {k : Nat}, sumTo g k ≠ 0 → ∃ i, i < k ∧ g i ≠ 0
  | 0, h => absurd rfl h
  | k + 1, h => by
    by_cases hk : g k = 0
    · have h' : sumTo g k ≠ 0 := fun h2 => h (by show sumTo g k + g k = 0; omega)
      obtain ⟨i, hi, h3⟩ := sumTo_pos h'
      exact ⟨i, by omega, h3⟩
    · exact ⟨k, by omega, hk⟩
theorem sumTo_mul (g : Nat → Nat) (c : Nat) : ∀ k, sumTo (fun i => c * g i) k = c * sumTo g k
  | 0 => by simp [sumTo]
  | k + 1 => by
    show sumTo (fun i => c * g i) k + c * g k = c * (sumTo g k + g k)
    rw [sumTo_mul g c k, Nat.mul_add]
theorem sumTo_add (g g' : Nat → Nat) : ∀ k, sumTo (fun i => g i + g' i) k = sumTo g k + sumTo g' k
  | 0 => by simp [sumTo]
  | k + 1 => by
    show sumTo (fun i => g i + g' i) k + (g k + g' k) = (sumTo g k + g k) + (sumTo g' k + g' k)
    rw [sumTo_add g g' k]; omega
theorem sumTo_mono {g g' : Nat → Nat} : ∀ {k : Nat}, (∀ i, i < k → g i ≤ g' i) → sumTo g k ≤ sumTo g' k
  | 0, _ => Nat.le_refl _
  | k + 1, h => by
    have := sumTo_mono (k := k) fun i hi => h i (by omega)
    have := h k (by omega)
    show sumTo g k + g k ≤ sumTo g' k + g' k
    omega
theorem sumTo_one {g : Nat → Nat} : ∀ {k i : Nat}, i < k → g i ≤ sumTo g k
  | 0, i, h => by omega
  | k + 1, i, h => by
    show g i ≤ sumTo g k + g k
    by_cases hi : i = k
    · subst hi; omega
    · have := sumTo_one (g := g) (k := k) (i := i) (by omega)
      omega
/-- A list of numbers, each of them taken so many times. -/
def dot (w : List Nat) (m : Nat → Nat) (k : Nat) : Nat := sumTo (fun t => w.getD t 0 * m t) k
theorem getD_setS (l : List Nat) (x v b : Nat) (hx : x < l.length) : (l.set x v).getD b 0 = if b = x then v else l.getD b 0 := by
  simp only [List.getD_eq_getElem?_getD, List.getElem?_set]
  by_cases h : x = b
  · subst h; simp [hx]
  · simp [h, Ne.symm h]
end Go.Proofs.Ytpfldhaaiglgdaa
