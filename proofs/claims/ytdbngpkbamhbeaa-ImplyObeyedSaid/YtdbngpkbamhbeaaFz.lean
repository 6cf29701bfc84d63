import Derived.Test.YtdbngpkbamhbeaaFn
set_option linter.unusedSimpArgs false
set_option linter.unusedVariables false
set_option linter.unusedSectionVars false
set_option maxRecDepth 20000
namespace Go.Proofs.Ytdbngpkbamhbeaa
attribute [local irreducible] QOp aL aC qL
theorem pext {a b : List (Int × Int)} (hl : a.length = b.length) (h : ∀ i, i < a.length → a.getD i (0, 0) = b.getD i (0, 0)) : a = b := by
  apply List.ext_getElem hl
  intro i h1 h2
  have := h i h1
  rwa [getD_of h1, getD_of h2] at this
end Go.Proofs.Ytdbngpkbamhbeaa
