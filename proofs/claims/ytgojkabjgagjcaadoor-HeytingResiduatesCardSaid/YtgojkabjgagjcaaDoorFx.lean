import Derived.Test.YtgojkabjgagjcaaDoorFw
set_option linter.unusedSimpArgs false
set_option linter.unusedVariables false
set_option linter.unusedSectionVars false
set_option maxRecDepth 20000
namespace Go.Proofs.YtgojkabjgagjcaaDoor
attribute [local irreducible] QOp aL aC qL
/-- Does a come ahead of b: by the first of the points that one alone has. -/
def lec (a b : Nat) : Bool := (List.range 10).any fun k => !a.testBit k && b.testBit k && (List.range k).all fun i => a.testBit i == b.testBit i
theorem lec_iff {a b : Nat} : lec a b = true ↔ ∃ k, k < 10 ∧ a.testBit k = false ∧ b.testBit k = true ∧ ∀ i, i < k → a.testBit i = b.testBit i := by
  unfold lec
  simp only [List.any_eq_true, List.mem_range, Bool.and_eq_true, Bool.not_eq_true', List.all_eq_true, beq_iff_eq, and_assoc]
theorem lec_trans {a b c : Nat} (h1 : lec a b = true) (h2 : lec b c = true) : lec a c = true := by
  obtain ⟨k, k1, k2, k3, k4⟩ := lec_iff.1 h1
  obtain ⟨l, l1, l2, l3, l4⟩ := lec_iff.1 h2
  rcases Nat.lt_trichotomy k l with h | h | h
  · exact lec_iff.2 ⟨k, k1, k2, by rw [← l4 k h]; exact k3, fun i hi => (k4 i hi).trans (l4 i (by omega))⟩
  · subst h; rw [k3] at l2; cases l2
  · exact lec_iff.2 ⟨l, l1, by rw [k4 l h]; exact l2, l3, fun i hi => (k4 i (by omega)).trans (l4 i hi)⟩
theorem xor_low {a b : Nat} (ha : a < 1024) (hb : b < 1024) (h : a ≠ b) : ∃ k, k < 10 ∧ low (a ^^^ b) = 2 ^ k ∧ a.testBit k ≠ b.testBit k ∧ ∀ i, i < k → a.testBit i = b.testBit i := by
  have hlt : a ^^^ b < 2 ^ 10 := Nat.xor_lt_two_pow ha hb
  have hne : a ^^^ b ≠ 0 := fun h0 => h (by
    apply Nat.eq_of_testBit_eq
    intro i
    have := congrArg (·.testBit i) h0
    simp only [Nat.testBit_xor, Nat.zero_testBit] at this
    cases ha : a.testBit i <;> cases hb : b.testBit i <;> rw [ha, hb] at this <;> first | rfl | cases this)
  obtain ⟨k, h1, h2, h3⟩ := low_pow (Nat.pos_of_ne_zero hne) (Nat.lt_trans hlt (by decide))
  refine ⟨k, ?_, h1, ?_, fun i hi => ?_⟩
  · rcases Nat.lt_or_ge k 10 with hk | hk
    · exact hk
    · rw [Nat.testBit_lt_two_pow (Nat.lt_of_lt_of_le hlt (Nat.pow_le_pow_right (by decide) hk))] at h2; cases h2
  · intro he
    rw [Nat.testBit_xor, he, Bool.xor_self] at h2; cases h2
  · have := h3 i hi
    rw [Nat.testBit_xor] at this
    cases ha : a.testBit i <;> cases hb : b.testBit i <;> rw [ha, hb] at this <;> first | rfl | cases this
theorem lec_total {a b : Nat} (ha : a < 1024) (hb : b < 1024) (h : a ≠ b) : lec a b = true ∨ lec b a = true := by
  obtain ⟨k, h1, _, h3, h4⟩ := xor_low ha hb h
  cases hk : a.testBit k
  · refine .inl (lec_iff.2 ⟨k, h1, hk, ?_, h4⟩)
    cases hk2 : b.testBit k
    · rw [hk, hk2] at h3; exact absurd rfl h3
    · rfl
  · refine .inr (lec_iff.2 ⟨k, h1, ?_, hk, fun i hi => (h4 i hi).symm⟩)
    cases hk2 : b.testBit k
    · rfl
    · rw [hk, hk2] at h3; exact absurd rfl h3
def closC (m : Nat) (ns : List Nat) (s : Nat) : Bool := decide (marksN m ns (thingsN ns s) = s)
/-- The first one of a family, if there is one. -/
structure Best (S : Nat → Prop) (o : Option Nat) : Prop where
  nn : o = none → ∀ x, ¬ S x
  sm : ∀ y, o = some y → S y ∧ ∀ x, S x → x = y ∨ lec y x = true
/-- One more. -/
theorem Best.step {S S' : Nat → Prop} {o : Option Nat} {s : Nat} (h : Best S o) (hs : S' s) (hS : ∀ x, S' x ↔ S x ∨ x = s) (hlt : ∀ x, S' x → x < 1024) (hb : ∀ y, o = some y → lec y s = false) : Best S' (some s) := by
  refine ⟨fun h => (by cases h), fun y hy => ?_⟩
  obtain rfl := Option.some.inj hy
  refine ⟨hs, fun x hx => ?_⟩
  rcases (hS x).1 hx with h1 | h1
  · by_cases hxs : x = s
    · exact .inl hxs
    · right
      cases o with
      | none => exact absurd h1 (h.nn rfl x)
      | some y =>
        obtain ⟨h2, h3⟩ := h.sm y rfl
        have h4 := hb y rfl
        have hys : y = s ∨ lec s y = true := by
          by_cases hq : y = s
          · exact .inl hq
          · rcases lec_total (hlt y ((hS y).2 (.inl h2))) (hlt s hs) hq with h5 | h5
            · rw [h4] at h5; cases h5
            · exact .inr h5
        rcases h3 x h1 with h5 | h5 <;> rcases hys with h6 | h6
        · exact absurd (h5.trans h6) hxs
        · rw [h5]; exact h6
        · rw [← h6]; exact h5
        · exact lec_trans h6 h5
  · exact .inl h1
theorem Best.stay {S S' : Nat → Prop} {o : Option Nat} {s : Nat} (h : Best S o) (hS : ∀ x, S x → S' x) (hS' : ∀ x, S' x → S x ∨ x = s) (hb : ¬ S' s ∨ ∃ y, o = some y ∧ (y = s ∨ lec y s = true)) : Best S' o := by
  refine ⟨fun ho x hx => ?_, fun y hy => ?_⟩
  · rcases hS' x hx with h1 | h1
    · exact h.nn ho x h1
    · subst h1
      rcases hb with h2 | ⟨y, h2, _⟩
      · exact h2 hx
      · rw [ho] at h2; cases h2
  · obtain ⟨h1, h2⟩ := h.sm y hy
    refine ⟨hS y h1, fun x hx => ?_⟩
    rcases hS' x hx with h3 | h3
    · exact h2 x h3
    · subst h3
      rcases hb with h4 | ⟨y', h4, h5⟩
      · exact absurd hx h4
      · rw [hy] at h4
        obtain rfl := Option.some.inj h4
        rcases h5 with h5 | h5
        · exact .inl h5.symm
        · exact .inr h5
end Go.Proofs.YtgojkabjgagjcaaDoor
