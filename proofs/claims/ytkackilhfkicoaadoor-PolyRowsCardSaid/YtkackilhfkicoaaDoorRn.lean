import Derived.Test.YtkackilhfkicoaaDoorRm
set_option linter.unusedSimpArgs false
set_option linter.unusedVariables false
set_option linter.unusedSectionVars false
set_option maxRecDepth 20000
namespace Go.Proofs.YtkackilhfkicoaaDoor
/-! Both binomial laws that are wanted. -/
/-! Sums over those strictly within. -/
section
variable {n : Nat} {S : List Nat}
/-- Over the ones strictly within the j-th. -/
def inI (S : List Nat) (x : Nat → Int) (j : Nat) : Int := sumI (fun i => if ftB S neB i j = true then x i else 0) S.length
theorem pc_lt {a b m : Nat} (ha : a < 2 ^ m) (hb : b < 2 ^ m) (h : sub a b = true) (hne : a ≠ b) : pcTo a m < pcTo b m := by
  rw [pc_cn, pc_cn]
  obtain ⟨x, hx⟩ : ∃ x, a.testBit x = false ∧ b.testBit x = true := by
    refine Classical.byContradiction fun hno => hne (Nat.eq_of_testBit_eq fun i => ?_)
    cases hai : a.testBit i
    · cases hbi : b.testBit i
      · rfl
      · exact absurd ⟨i, hai, hbi⟩ hno
    · exact (sub_iff.1 h i hai).symm
  have hxm : x < m := bit_ltC hb hx.2
  rw [cn_erase (q := fun i => b.testBit i) (y := x) hx.2 m hxm]
  refine Nat.lt_succ_of_le (cn_mono m fun i _ hi => ?_)
  rw [Bool.and_eq_true, Bool.not_eq_true', decide_eq_false_iff_not]
  exact ⟨sub_iff.1 h i hi, fun e => by rw [e, hx.1] at hi; cases hi⟩
theorem ft_ne {i j : Nat} (h : ftB S neB i j = true) : sub (S.getD i 0) (S.getD j 0) = true ∧ S.getD i 0 ≠ S.getD j 0 := by
  unfold ftB neB at h
  rw [Bool.and_eq_true, decide_eq_true_eq] at h
  exact h
/-- No more steps than points. -/
theorem wI_none (hF : Fam n S) : ∀ k j, j < S.length → pcTo (S.getD j 0) n < k → wI S neB k j = 0
  | 0, _, _, h => absurd h (Nat.not_lt_zero _)
  | k + 1, j, hj, h => by
    rw [wI_s]
    refine sumTo_zero fun i hi => ?_
    split
    · rename_i hf
      obtain ⟨h1, h2⟩ := ft_ne hf
      exact wI_none hF k i hi (by have := pc_lt (hF.lt i hi) (hF.lt j hj) h1 h2; omega)
    · rfl
/-- Numbers by binomial numbers. -/
def vI (S : List Nat) (z : Int) (K j : Nat) : Int := sumI (fun k => (wI S neB k j : Int) * bn z k) K
/-! Maps that rise or stay. -/
end
end Go.Proofs.YtkackilhfkicoaaDoor
