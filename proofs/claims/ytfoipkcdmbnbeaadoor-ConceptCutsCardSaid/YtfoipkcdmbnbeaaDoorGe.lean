/- Covers; an order turned over. -/
import Derived.Test.YtfoipkcdmbnbeaaDoorGd
import Derived.Test.YtfoipkcdmbnbeaaDoorFz
set_option linter.unusedSimpArgs false
set_option linter.unusedVariables false
set_option maxRecDepth 20000
namespace Go.Proofs.YtfoipkcdmbnbeaaDoor
attribute [local irreducible] QOp aL aC qL
theorem btw_true {ns : List Nat} {a b c n : Nat} (hc : c < n) (h1 : lt ns a c = true) (h2 : lt ns c b = true) : btw ns a b n = true := by
  rw [btw, List.any_eq_true]
  exact ⟨c, List.mem_range.2 hc, by rw [h1, h2]; rfl⟩
theorem btw_false {ns : List Nat} {a b n : Nat} (h : ∀ c, c < n → (lt ns a c && lt ns c b) = false) : btw ns a b n = false := by
  rw [btw, List.any_eq_false]
  exact fun c hc => by rw [h c (List.mem_range.1 hc)]; decide
end Go.Proofs.YtfoipkcdmbnbeaaDoor
