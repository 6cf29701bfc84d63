import Derived.Test.YtkackilhfkicoaaDoorRn
set_option linter.unusedSimpArgs false
set_option linter.unusedVariables false
set_option linter.unusedSectionVars false
set_option maxRecDepth 20000
namespace Go.Proofs.YtkackilhfkicoaaDoor
def sgM (k : Nat) : Int := if k % 2 = 1 then -1 else 1
section
variable {n : Nat} {ns : List Nat}
theorem idl_iff {s : Nat} : idl n ns s = true ↔ ∀ b, b < n → s.testBit b = true → ∀ y, lt ns y b = true → s.testBit y = true := by
  unfold idl
  rw [List.all_eq_true]
  constructor
  · intro h b hb h1 y hy
    have := h b (List.mem_range.2 hb)
    rw [h1, Bool.not_true, Bool.false_or] at this
    exact sub_iff.1 this y hy
  · intro h b hb
    cases h1 : s.testBit b
    · rfl
    · rw [Bool.not_true, Bool.false_or]
      exact sub_iff.2 fun y hy => h b (List.mem_range.1 hb) h1 y hy
theorem stO_ord' (hok : okB n ns = true) : StO n (lt ns) := ⟨fun i hi => okB_irr hok hi, fun i j k hi hj hk h1 h2 => okB_tr hok hk hj h2 h1⟩
/-- A lowest point of what one set has more than another one. -/
theorem low_ex (hok : okB n ns = true) {s t : Nat} (ht : t < 2 ^ n) (h : sub s t = true) (hne : s ≠ t) : ∃ x, x < n ∧ t.testBit x = true ∧ s.testBit x = false ∧ ∀ y, y < n → lt ns y x = true → t.testBit y = true → s.testBit y = true := by
  obtain ⟨x0, hx0⟩ : ∃ x, s.testBit x = false ∧ t.testBit x = true := by
    refine Classical.byContradiction fun hno => hne (Nat.eq_of_testBit_eq fun i => ?_)
    cases hai : s.testBit i
    · cases hbi : t.testBit i
      · rfl
      · exact absurd ⟨i, hai, hbi⟩ hno
    · exact (sub_iff.1 h i hai).symm
  have go : ∀ r x, x < n → rkL n (lt ns) x ≤ r → s.testBit x = false → t.testBit x = true → ∃ x, x < n ∧ t.testBit x = true ∧ s.testBit x = false ∧ ∀ y, y < n → lt ns y x = true → t.testBit y = true → s.testBit y = true := by
    intro r
    induction r with
    | zero =>
      intro x hx hr h1 h2
      refine ⟨x, hx, h2, h1, fun y hy hl _ => ?_⟩
      have := rkL_lt (stO_ord' hok) hy hx hl; omega
    | succ r ih =>
      intro x hx hr h1 h2
      by_cases hq : ∃ y, y < n ∧ lt ns y x = true ∧ t.testBit y = true ∧ s.testBit y = false
      · obtain ⟨y, hy, hl, h3, h4⟩ := hq
        have := rkL_lt (stO_ord' hok) hy hx hl
        exact ih y hy (by omega) h4 h3
      · refine ⟨x, hx, h2, h1, fun y hy hl h3 => ?_⟩
        cases h4 : s.testBit y
        · exact absurd ⟨y, hy, hl, h3, h4⟩ hq
        · rfl
  exact go _ x0 (bit_ltC ht hx0.2) (Nat.le_refl _) hx0.1 hx0.2
/-- Between two ideals, by antichains from the lower one. -/
def cdM (n : Nat) (ns : List Nat) (s t u : Nat) : Bool := idl n ns u && sub s u && sub u t && atN n ns (ndiff u s)
def uI (n : Nat) (ns : List Nat) (m j : Nat) : Int := sgM (pcTo ((idS n ns).getD j 0) n) * (wI (idS n ns) (stW n ns) m j : Nat)
end
end Go.Proofs.YtkackilhfkicoaaDoor
