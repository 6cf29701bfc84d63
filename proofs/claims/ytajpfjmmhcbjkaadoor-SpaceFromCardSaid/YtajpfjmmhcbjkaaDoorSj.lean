import Derived.Test.YtajpfjmmhcbjkaaDoorSi
import Derived.Test.YtajpfjmmhcbjkaaDoorEngZc
set_option linter.unusedSimpArgs false
set_option linter.unusedVariables false
set_option linter.unusedSectionVars false
set_option maxRecDepth 20000
namespace Go.Proofs.YtajpfjmmhcbjkaaDoor
attribute [local irreducible] QOp aL aC qL
def lbN (S : List Nat) (x : Nat) : Nat := S.countP fun s => decide (s < x)
theorem rise_get {S : List Nat} (h : S.Pairwise (· < ·)) {i j : Nat} (hij : i < j) (hj : j < S.length) : S.getD i 0 < S.getD j 0 := by
  rw [List.pairwise_iff_getElem] at h
  have := h i j (by omega) hj hij
  rwa [List.getD_eq_getElem?_getD, List.getD_eq_getElem?_getD, List.getElem?_eq_getElem (by omega), List.getElem?_eq_getElem hj]
theorem mem_get {S : List Nat} {x : Nat} : x ∈ S ↔ ∃ i, i < S.length ∧ S.getD i 0 = x := by
  constructor
  · intro h
    obtain ⟨i, hi, rfl⟩ := List.getElem_of_mem h
    exact ⟨i, hi, by rw [List.getD_eq_getElem?_getD, List.getElem?_eq_getElem hi]; rfl⟩
  · rintro ⟨i, hi, rfl⟩
    rw [List.getD_eq_getElem?_getD, List.getElem?_eq_getElem hi]
    exact List.getElem_mem hi
end Go.Proofs.YtajpfjmmhcbjkaaDoor
