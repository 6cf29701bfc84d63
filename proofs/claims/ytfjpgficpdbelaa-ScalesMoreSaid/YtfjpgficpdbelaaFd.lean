import Derived.Test.YtfjpgficpdbelaaFc
set_option linter.unusedSimpArgs false
set_option linter.unusedVariables false
set_option linter.unusedSectionVars false
set_option maxRecDepth 20000
namespace Go.Proofs.Ytfjpgficpdbelaa
attribute [local irreducible] QOp aL aC qL
def trip (ns : List Nat) (i j k : Nat) : Bool := lt ns j k && (lt ns k i && !lt ns j i)

theorem lt_lt {n : Nat} {ns : List Nat} (h : ∀ x ∈ ns, x < 2 ^ n) {a b : Nat} (hl : lt ns a b = true) : a < n := by
  unfold lt at hl
  have hx : ns.getD b 0 < 2 ^ n := by
    rw [List.getD_eq_getElem?_getD]
    cases hk : ns[b]? with
    | none => exact Nat.pow_pos (by decide)
    | some x => exact h x (List.mem_of_getElem? hk)
  rcases Nat.lt_or_ge a n with h1 | h1
  · exact h1
  · rw [Nat.testBit_lt_two_pow (Nat.lt_of_lt_of_le hx (Nat.pow_le_pow_right (by decide) h1))] at hl
    cases hl
theorem lt_lt' {n : Nat} {ns : List Nat} (h : ns.length = n) {a b : Nat} (hl : lt ns a b = true) : b < n := by
  unfold lt at hl
  rcases Nat.lt_or_ge b n with h1 | h1
  · exact h1
  · rw [List.getD_eq_getElem?_getD, List.getElem?_eq_none (by omega)] at hl
    simp at hl

theorem okB_trip {n : Nat} {ns : List Nat} {i j k : Nat} (hi : i < n) (hk : k < n) (h : trip ns i j k = true) : okB n ns = false := by
  simp only [trip, Bool.and_eq_true, Bool.not_eq_true'] at h
  obtain ⟨h1, h2, h3⟩ := h
  refine okB_false hi (okRow_false hk ?_)
  unfold okPair
  rw [h2]
  simp only [Bool.not_true, Bool.false_or]
  rw [beq_eq_false_iff_ne]
  intro h4
  have := ndiff_zero.1 h4 j h1
  unfold lt at h3
  rw [h3] at this
  cases this
theorem okB_all {n : Nat} {ns : List Nat} (hns : ∀ x ∈ ns, x < 2 ^ n) (h : ∀ i, i < n → (∀ j, j < n → ∀ k, k < n → trip ns i j k = false) ∧ lt ns i i = false) : okB n ns = true := by
  rw [okB, List.all_eq_true]
  intro i hi
  obtain ⟨h1, h2⟩ := h i (List.mem_range.1 hi)
  rw [okRow, h2]
  simp only [Bool.not_false, Bool.true_and, List.all_eq_true]
  intro k hk
  unfold okPair
  cases hki : lt ns k i
  · rfl
  · simp only [Bool.not_true, Bool.false_or, beq_iff_eq]
    rw [ndiff_zero]
    intro j hj
    have h3 := h1 j (lt_lt hns (a := j) (b := k) hj) k (List.mem_range.1 hk)
    unfold trip at h3
    rw [show lt ns j k = true from hj, hki] at h3
    simpa [lt] using h3

end Go.Proofs.Ytfjpgficpdbelaa
