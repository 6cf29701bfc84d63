import Derived.Test.YtkocegdbniahkaaEngZd
import Derived.Laws.Slices
set_option linter.unusedSimpArgs false
set_option linter.unusedVariables false
set_option linter.unusedSectionVars false
namespace Go.Proofs.Ytkocegdbniahkaa
open Go.RowKit
section
variable {P : Program} {st : St} {d : Option Tmp} {ty : TypeId} {pos : String} {af : Array Edge} {g : Option (Nat × Bool)}
theorem slT_elem {P : Program} {T e : TypeId} {sz : Nat} (ht : SlT P T e sz) : P.elem T = e ∧ P.underlying T = some (.slice (P.elem T)) := by
  have h : P.elem T = e := by unfold Program.elem; rw [ht.1]
  exact ⟨h, by rw [h]; exact ht.1⟩
end
end Go.Proofs.Ytkocegdbniahkaa
