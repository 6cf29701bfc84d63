import Derived.Test.YtfjpgficpdbelaaHi
set_option linter.unusedSimpArgs false
set_option linter.unusedVariables false
set_option linter.unusedSectionVars false
set_option maxRecDepth 20000
namespace Go.Proofs.Ytfjpgficpdbelaa
attribute [local irreducible] QOp aL aC qL
attribute [local irreducible] FOp POp hL xH zL
/-- What the reference swaps: those of which the first is not below the second. -/
def swR (ns l : List Nat) (k : Nat) : List Nat := if lt ns (l.getD k 0) (l.getD (k + 1) 0) = true then l else (l.set k (l.getD (k + 1) 0)).set (k + 1) (l.getD k 0)
theorem swR_len (ns l : List Nat) (k : Nat) : (swR ns l k).length = l.length := by
  unfold swR; split <;> simp
theorem Pts.swR {n k : Nat} {ns l : List Nat} (h : Pts n l) (hk : k + 1 < n) : Pts n (swR ns l k) := by
  refine ⟨by rw [swR_len]; exact h.1, fun j hj => ?_⟩
  unfold Go.Proofs.Ytfjpgficpdbelaa.swR
  split
  · exact h.2 j hj
  · have h1 := h.2 k (by omega)
    have h2 := h.2 (k + 1) hk
    have h3 := h.2 j hj
    have hl := h.1
    simp only [List.getD_eq_getElem?_getD] at *
    by_cases e1 : k + 1 = j
    · subst e1
      rw [List.getElem?_set_self (by rw [List.length_set]; omega)]; exact h1
    · rw [List.getElem?_set_ne e1]
      by_cases e2 : k = j
      · subst e2
        rw [List.getElem?_set_self (by omega)]; exact h2
      · rw [List.getElem?_set_ne e2]; exact h3
def upR (ns l : List Nat) : Nat → List Nat
  | 0 => l
  | k + 1 => swR ns (upR ns l k) k
theorem Pts.upR {n : Nat} {ns l : List Nat} (h : Pts n l) : ∀ k, k + 1 ≤ n → Pts n (upR ns l k)
  | 0, _ => h
  | k + 1, hk => (Pts.upR h k (by omega)).swR (by omega)
end Go.Proofs.Ytfjpgficpdbelaa
