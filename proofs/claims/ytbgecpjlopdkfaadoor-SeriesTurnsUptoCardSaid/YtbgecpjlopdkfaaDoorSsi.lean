import Derived.Test.YtbgecpjlopdkfaaDoorSsg
set_option linter.unusedSimpArgs false
set_option linter.unusedVariables false
set_option linter.unusedSectionVars false
set_option maxRecDepth 20000
namespace Go.Proofs.YtbgecpjlopdkfaaDoor
attribute [local irreducible] QOp aL aC qL
theorem kfrm_get : ∀ {l : List Tr}, kfrm l = 0 → ∀ {i : Nat} (h : i < l.length), (l[i]).frm = 0
  | t :: r, hf, i, h => by
    unfold kfrm at hf
    by_cases ht : t.frm = 0
    · rw [if_neg (by omega)] at hf
      cases i with
      | zero => exact ht
      | succ i => exact kfrm_get hf (by simpa using h)
    · rw [if_pos ht] at hf; exact absurd hf ht
theorem frm_kids {k p : Int} {l : List Tr} (h : (Tr.mk k p l).frm = 0) : ¬ (k < 1 ∨ 3 < k) ∧ ¬ ((k = 1 ∧ 0 < l.length) ∨ (k ≠ 1 ∧ (l.length < 2 ∨ p ≠ 0))) ∧ kfrm l = 0 := by
  unfold Tr.frm at h
  by_cases h1 : k < 1 ∨ 3 < k
  · rw [if_pos h1] at h; omega
  · rw [if_neg h1] at h
    by_cases h2 : (k = 1 ∧ 0 < l.length) ∨ (k ≠ 1 ∧ (l.length < 2 ∨ p ≠ 0))
    · rw [if_pos h2] at h; omega
    · rw [if_neg h2] at h; exact ⟨h1, h2, h⟩
theorem frm_pts : ∀ (d : Nat) (t : Tr), t.dep ≤ d → t.frm = 0 → 0 < t.pts.length
  | 0, .mk k p l, hd, _ => by unfold Tr.dep at hd; omega
  | d + 1, .mk k p l, hd, hf => by
    obtain ⟨h1, h2, h3⟩ := frm_kids hf
    unfold Tr.pts
    by_cases hk : k = 1
    · rw [if_pos hk]; exact Nat.one_pos
    · rw [if_neg hk]
      unfold Tr.dep at hd
      match l, h2, h3, hd with
      | [], h2, _, _ => exact absurd (.inr ⟨hk, .inl (by decide)⟩) h2
      | t :: r, _, h3, hd =>
        have ht : t.frm = 0 := kfrm_get (l := t :: r) h3 (i := 0) (by simp)
        have := frm_pts d t (by unfold kdep at hd; omega) ht
        unfold kpts
        rw [List.length_append]; omega
end Go.Proofs.YtbgecpjlopdkfaaDoor
