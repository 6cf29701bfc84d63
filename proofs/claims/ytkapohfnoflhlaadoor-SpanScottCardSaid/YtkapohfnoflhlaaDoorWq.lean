import Derived.Test.YtkapohfnoflhlaaDoorWk
import Derived.Test.YtkapohfnoflhlaaDoorFi
set_option linter.unusedSimpArgs false
set_option linter.unusedVariables false
set_option linter.unusedSectionVars false
set_option maxRecDepth 20000
namespace Go.Proofs.YtkapohfnoflhlaaDoor
/-- All bits of s are bits of t. -/
def subN (s t : Nat) : Prop := ∀ i, s.testBit i = true → t.testBit i = true
/-- The sets are a chain. -/
def ChN (D : List Nat) : Prop := ∀ s ∈ D, ∀ t ∈ D, subN s t ∨ subN t s
theorem qdY_iff {n : Nat} {q : Nat → Nat → Nat → Nat → Bool} : qdY n q = true ↔ ∃ k, k < n * n * n * n ∧ qdB n q k = true := by
  unfold qdY
  cases hf : qdF (qdB n q) (n * n * n * n) with
  | some k =>
    obtain ⟨h1, h2, _⟩ := qdF_all hf
    exact ⟨fun _ => ⟨k, h1, h2⟩, fun _ => rfl⟩
  | none =>
    refine ⟨fun h => (by cases h), fun ⟨k, h1, h2⟩ => ?_⟩
    have : ∀ {m : Nat}, qdF (qdB n q) m = none → ∀ x, x < m → qdB n q x = false := fun {m} => by
      induction m with
      | zero => exact fun _ x hx => by omega
      | succ m ih =>
        intro h x hx
        rw [qdF] at h
        cases hm : qdF (qdB n q) m with
        | some a => rw [hm] at h; cases h
        | none =>
          rw [hm] at h
          change (if qdB n q m = true then some m else none) = none at h
          by_cases hxm : x = m
          · subst hxm
            cases hq : qdB n q x with
            | false => rfl
            | true => rw [hq, if_pos rfl] at h; cases h
          · exact ih hm x (by omega)
    rw [this hf k h1] at h2; cases h2
/-- There are such four just if some list of four different points is such. -/
theorem qdY_ex {n : Nat} {q : Nat → Nat → Nat → Nat → Bool} : qdY n q = true ↔ ∃ a b c d, a < n ∧ b < n ∧ c < n ∧ d < n ∧ qdD a b c d = true ∧ q a b c d = true := by
  rw [qdY_iff]
  constructor
  · rintro ⟨k, hk, h⟩
    have h0 : 0 < n := by
      rcases Nat.eq_zero_or_pos n with h | h
      · subst h; simp at hk
      · exact h
    unfold qdB at h
    rw [Bool.and_eq_true] at h
    exact ⟨_, _, _, _, Nat.div_lt_of_lt_mul hk, Nat.mod_lt _ h0, Nat.mod_lt _ h0, Nat.mod_lt _ h0, h.1, h.2⟩
  · rintro ⟨a, b, c, d, ha, hb, hc, hd, h1, h2⟩
    have h0 : 0 < n := by omega
    have hk : ((a * n + b) * n + c) * n + d < n * n * n * n := by
      have e1 : a * n + b < n * n := by
        have : (a + 1) * n ≤ n * n := Nat.mul_le_mul_right n ha
        rw [Nat.add_mul] at this; omega
      have e2 : (a * n + b) * n + c < n * n * n := by
        have : (a * n + b + 1) * n ≤ n * n * n := Nat.mul_le_mul_right n e1
        rw [Nat.add_mul] at this; omega
      have : ((a * n + b) * n + c + 1) * n ≤ n * n * n * n := Nat.mul_le_mul_right n e2
      rw [Nat.add_mul] at this; omega
    refine ⟨_, hk, ?_⟩
    have m1 : ∀ x y, y < n → (x * n + y) % n = y := fun x y hy => by rw [Nat.mul_comm, Nat.mul_add_mod, Nat.mod_eq_of_lt hy]
    have m2 : ∀ x y, y < n → (x * n + y) / n = x := fun x y hy => by rw [Nat.mul_comm, Nat.mul_add_div h0, Nat.div_eq_of_lt hy, Nat.add_zero]
    have d1 := m2 ((a * n + b) * n + c) d hd
    have d2 := m2 (a * n + b) c hc
    have d3 := m2 a b hb
    unfold qdB
    rw [show (((a * n + b) * n + c) * n + d) / (n * n * n) = a by rw [← Nat.div_div_eq_div_mul, ← Nat.div_div_eq_div_mul, d1, d2, d3],
      show (((a * n + b) * n + c) * n + d) / (n * n) % n = b by rw [← Nat.div_div_eq_div_mul, d1, d2, m1 _ _ hb],
      show (((a * n + b) * n + c) * n + d) / n % n = c by rw [d1, m1 _ _ hc], m1 _ _ hd, h1, h2]
    rfl
end Go.Proofs.YtkapohfnoflhlaaDoor
