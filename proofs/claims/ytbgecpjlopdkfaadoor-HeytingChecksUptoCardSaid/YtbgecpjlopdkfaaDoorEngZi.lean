import Derived.Test.YtbgecpjlopdkfaaDoorEngZd
import Derived.Laws.Slices
set_option linter.unusedSimpArgs false
set_option linter.unusedVariables false
set_option linter.unusedSectionVars false
namespace Go.Proofs.YtbgecpjlopdkfaaDoor
open Go.RowKit
/-- A region that draws its order, nothing set aside. -/
theorem a_holdX [Zs] {P : Program} {k : Nat} {cx : Cx k} {K : St → Prop} {st : St} {id : Nat} {l : List Oper} {n : Nat} {Q : Exit → St → Prop} (hm : P.follows .mixedOrders = true) (hn : l.length = n) (h : xH P cx l.toArray K (fun _ => True) n (List.replicate n false) st) : aC P cx (.region id l.toArray true) (thenA K Q) st := by
  subst hn
  refine a_mono (Q := ThenK K) ?_ fun e st h => by cases e <;> first | exact h | exact h.elim
  intro a w hr
  have hr2 := hr.mono (w' := { w with drawn := w.drawn + 1 }) ⟨rfl, rfl, rfl, Nat.le_refl _, fun _ _ => rfl⟩
  refine wp_region_held (S := fun _ => True) hm ?_
  have := h (fun _ _ => trivial) _ _ hr2
  simpa using this
end Go.Proofs.YtbgecpjlopdkfaaDoor
