/- The reference's word on weights that rise; is a truth the one that is wanted. -/
import Derived.Test.YtmfhmpdpebpijaaFo
set_option linter.unusedSimpArgs false
set_option linter.unusedVariables false
namespace Go.Proofs.Ytmfhmpdpebpijaa
attribute [local irreducible] QOp aL aC qL
theorem rising_false {n : Nat} {f : List Int} {a b : Nat} (ha : a < 2 ^ n) (hb : b < 2 ^ n) (hs : sub a b = true) (h : f.getD a 0 > f.getD b 0) : rising n f = false := by
  rw [rising, List.all_eq_false]
  refine ⟨a, List.mem_range.2 ha, ?_⟩
  rw [Bool.not_eq_true, List.all_eq_false]
  exact ⟨b, List.mem_range.2 hb, by rw [hs, decide_eq_true h]; decide⟩
theorem rising_true {n : Nat} {f : List Int} (h : ∀ a, a < 2 ^ n → ∀ b, b < 2 ^ n → sub a b = true → ¬ f.getD a 0 > f.getD b 0) : rising n f = true := by
  rw [rising, List.all_eq_true]
  intro a ha
  rw [List.all_eq_true]
  intro b hb
  cases hs : sub a b
  · rfl
  · rw [decide_eq_false (h a (List.mem_range.1 ha) b (List.mem_range.1 hb) hs)]
    rfl
end Go.Proofs.Ytmfhmpdpebpijaa
