import Derived.Test.YtfjpgficpdbelaaFb
import Derived.Test.YtfjpgficpdbelaaEngT
set_option linter.unusedSimpArgs false
set_option linter.unusedVariables false
set_option linter.unusedSectionVars false
set_option maxRecDepth 20000
namespace Go.Proofs.Ytfjpgficpdbelaa
attribute [local irreducible] QOp aL aC qL
def idx {α : Type} (p : α → Bool) (l : List α) : Int := match l.findIdx? p with
  | some i => i
  | none => -1
theorem idx_some {α : Type} {p : α → Bool} {l : List α} {k : Nat} (hk : k < l.length) (h0 : ∀ i (h : i < l.length), i < k → p l[i] = false) (h1 : p l[k] = true) : idx p l = k := by
  unfold idx
  rw [(List.findIdx?_eq_some_iff_getElem (p := p) (i := k) (xs := l)).2 ⟨hk, h1, fun j hj => by rw [h0 j (by omega) hj]; decide⟩]
theorem idx_none {α : Type} {p : α → Bool} {l : List α} (h0 : ∀ i (h : i < l.length), p l[i] = false) : idx p l = -1 := by
  unfold idx
  rw [List.findIdx?_eq_none_iff.2 (fun x hx => by
    obtain ⟨i, hi, rfl⟩ := List.getElem_of_mem hx
    exact h0 i hi)]
theorem getD_of {α : Type} {l : List α} {k : Nat} (h : k < l.length) (z : α) : l.getD k z = l[k] := by rw [List.getD_eq_getElem?_getD, List.getElem?_eq_getElem h]; rfl

end Go.Proofs.Ytfjpgficpdbelaa
