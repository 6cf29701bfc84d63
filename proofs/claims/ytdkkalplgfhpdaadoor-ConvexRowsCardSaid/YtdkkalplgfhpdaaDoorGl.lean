import Derived.Test.YtdkkalplgfhpdaaDoorGd
import Derived.Test.YtdkkalplgfhpdaaDoorFn
import Derived.Test.YtdkkalplgfhpdaaDoorEngT
set_option linter.unusedSimpArgs false
set_option linter.unusedVariables false
set_option linter.unusedSectionVars false
set_option maxRecDepth 20000
namespace Go.Proofs.YtdkkalplgfhpdaaDoor
attribute [local irreducible] QOp aL aC qL
/-! Turned over. -/
def dualP (ns : List Nat) (a b : Nat) : Bool := lt ns b a
def turnP (l : List (Nat × Nat)) (k : Nat) (a b : Nat) : Bool := (l.take k).contains (b, a)
end Go.Proofs.YtdkkalplgfhpdaaDoor
set_option linter.unusedSimpArgs false
set_option linter.unusedVariables false
set_option linter.unusedSectionVars false
set_option maxRecDepth 20000
namespace Go.Proofs.YtdkkalplgfhpdaaDoor
attribute [local irreducible] QOp aL aC qL
theorem idl_iff {n : Nat} {ns : List Nat} {s : Nat} : idl n ns s = true ↔ ∀ b, b < n → s.testBit b = true → ∀ a, (ns.getD b 0).testBit a = true → s.testBit a = true := by
  unfold idl
  simp only [List.all_eq_true, List.mem_range, Bool.or_eq_true, Bool.not_eq_true', sub_iff]
  constructor
  · intro h b hb hs
    rcases h b hb with h1 | h1
    · rw [hs] at h1; cases h1
    · exact h1
  · intro h b hb
    cases hs : s.testBit b
    · exact .inl rfl
    · exact .inr (h b hb hs)
end Go.Proofs.YtdkkalplgfhpdaaDoor
