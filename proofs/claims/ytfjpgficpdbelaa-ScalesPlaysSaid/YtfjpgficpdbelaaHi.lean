import Derived.Test.YtfjpgficpdbelaaHe
import Derived.Test.YtfjpgficpdbelaaFb
import Derived.Test.YtfjpgficpdbelaaEngZd
import Derived.Test.YtfjpgficpdbelaaEngZf
set_option linter.unusedSimpArgs false
set_option linter.unusedVariables false
set_option linter.unusedSectionVars false
set_option maxRecDepth 20000
namespace Go.Proofs.Ytfjpgficpdbelaa
attribute [local irreducible] QOp aL aC qL
attribute [local irreducible] FOp POp hL xH
/-- May two neighbours change their places? -/
def swB (ns l : List Nat) (k : Nat) : Bool := !lt ns (l.getD k 0) (l.getD (k + 1) 0) && !lt ns (l.getD (k + 1) 0) (l.getD k 0)
def swN (ns l : List Nat) (k : Nat) : List Nat := if swB ns l k = true then (l.set k (l.getD (k + 1) 0)).set (k + 1) (l.getD k 0) else l
theorem swN_len (ns l : List Nat) (k : Nat) : (swN ns l k).length = l.length := by
  unfold swN; split <;> simp
/-- All of a row are points. -/
def Pts (n : Nat) (l : List Nat) : Prop := l.length = n ∧ ∀ j, j < n → l.getD j 0 < n
theorem Pts.sw {n k : Nat} {ns l : List Nat} (h : Pts n l) (hk : k + 1 < n) : Pts n (swN ns l k) := by
  refine ⟨by rw [swN_len]; exact h.1, fun j hj => ?_⟩
  unfold swN
  split
  · have h1 := h.2 k (by omega)
    have h2 := h.2 (k + 1) hk
    have h3 := h.2 j hj
    have hl := h.1
    simp only [List.getD_eq_getElem?_getD] at *
    by_cases e1 : k + 1 = j
    · subst e1
      rw [List.getElem?_set_self (by rw [List.length_set]; omega)]; exact h1
    · rw [List.getElem?_set_ne e1]
      by_cases e2 : k = j
      · subst e2
        rw [List.getElem?_set_self (by omega)]; exact h2
      · rw [List.getElem?_set_ne e2]; exact h3
  · exact h.2 j hj
def upN (ns l : List Nat) : Nat → List Nat
  | 0 => l
  | k + 1 => swN ns (upN ns l k) k
theorem Pts.up {n : Nat} {ns l : List Nat} (h : Pts n l) : ∀ k, k + 1 ≤ n → Pts n (upN ns l k)
  | 0, _ => h
  | k + 1, hk => (Pts.up h k (by omega)).sw (by omega)
end Go.Proofs.Ytfjpgficpdbelaa
