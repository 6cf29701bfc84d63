import Derived.Test.YtbgecpjlopdkfaaDoorEngZzc
import Derived.Test.YtbgecpjlopdkfaaDoorFkb
import Derived.Test.YtbgecpjlopdkfaaDoorEngT
set_option linter.unusedSimpArgs false
set_option linter.unusedVariables false
set_option linter.unusedSectionVars false
set_option maxRecDepth 20000
namespace Go.Proofs.YtbgecpjlopdkfaaDoor
attribute [local irreducible] QOp aL aC qL
/-! Plain. -/
def qdF (p : Nat → Bool) : Nat → Option Nat
  | 0 => none
  | k + 1 => match qdF p k with
    | some a => some a
    | none => if p k = true then some k else none
theorem qdF_none {p : Nat → Bool} : ∀ {k : Nat}, (∀ i, i < k → p i = false) → qdF p k = none
  | 0, _ => rfl
  | k + 1, h => by rw [qdF, qdF_none fun i hi => h i (by omega)]; show (if p k = true then some k else none) = none; rw [h k (by omega)]; rfl
theorem qdF_some {p : Nat → Bool} {i : Nat} (h1 : ∀ j, j < i → p j = false) (h2 : p i = true) : ∀ {k : Nat}, i < k → qdF p k = some i
  | k + 1, h => by
    by_cases hik : i = k
    · subst hik
      rw [qdF, qdF_none h1]; show (if p i = true then some i else none) = some i; rw [h2]; rfl
    · rw [qdF, qdF_some h1 h2 (by omega)]
theorem qdF_all {p : Nat → Bool} {i : Nat} : ∀ {k : Nat}, qdF p k = some i → i < k ∧ p i = true ∧ ∀ j, j < i → p j = false
  | 0, h => by cases h
  | k + 1, h => by
    rw [qdF] at h
    cases hf : qdF p k with
    | some a =>
      rw [hf] at h
      obtain rfl := Option.some.inj h
      obtain ⟨h1, h2, h3⟩ := qdF_all hf
      exact ⟨by omega, h2, h3⟩
    | none =>
      rw [hf] at h
      change (if p k = true then some k else none) = some i at h
      split at h
      · obtain rfl := Option.some.inj h
        rename_i hp
        refine ⟨by omega, hp, fun j hj => ?_⟩
        cases hb : p j with
        | false => rfl
        | true =>
          exfalso
          have : ∀ {m : Nat}, qdF p m = none → ∀ x, x < m → p x = false := fun {m} => by
            induction m with
            | zero => exact fun _ x hx => by omega
            | succ m ih =>
              intro h x hx
              rw [qdF] at h
              cases hm : qdF p m with
              | some a => rw [hm] at h; cases h
              | none =>
                rw [hm] at h
                change (if p m = true then some m else none) = none at h
                by_cases hxm : x = m
                · subst hxm
                  cases hq : p x with
                  | false => rfl
                  | true => rw [hq, if_pos rfl] at h; cases h
                · exact ih hm x (by omega)
          rw [this hf j hj] at hb; cases hb
      · cases h
def qdL (n k : Nat) : List Nat := [k / (n * n * n), k / (n * n) % n, k / n % n, k % n]
def qdD (a b c d : Nat) : Bool := decide (a ≠ b ∧ a ≠ c ∧ a ≠ d ∧ b ≠ c ∧ b ≠ d ∧ c ≠ d)
def qdB (n : Nat) (q : Nat → Nat → Nat → Nat → Bool) (k : Nat) : Bool := qdD (k / (n * n * n)) (k / (n * n) % n) (k / n % n) (k % n) && q (k / (n * n * n)) (k / (n * n) % n) (k / n % n) (k % n)
def qdR (n : Nat) (q : Nat → Nat → Nat → Nat → Bool) : List Nat := match qdF (qdB n q) (n * n * n * n) with
  | some k => qdL n k
  | none => []
def qdY (n : Nat) (q : Nat → Nat → Nat → Nat → Bool) : Bool := (qdF (qdB n q) (n * n * n * n)).isSome
theorem qd_hit {n : Nat} {q : Nat → Nat → Nat → Nat → Bool} {k : Nat} (hk : k < n * n * n * n) (h1 : ∀ j, j < k → qdB n q j = false) (h2 : qdB n q k = true) : qdR n q = qdL n k ∧ qdY n q = true := by
  unfold qdR qdY
  rw [qdF_some h1 h2 hk]
  exact ⟨rfl, rfl⟩
theorem qd_miss {n : Nat} {q : Nat → Nat → Nat → Nat → Bool} (h1 : ∀ j, j < n * n * n * n → qdB n q j = false) : qdR n q = [] ∧ qdY n q = false := by
  unfold qdR qdY
  rw [qdF_none h1]
  exact ⟨rfl, rfl⟩
theorem qdY_iff {n : Nat} {q : Nat → Nat → Nat → Nat → Bool} : qdY n q = true ↔ ∃ k, k < n * n * n * n ∧ qdB n q k = true := by
  unfold qdY
  cases hf : qdF (qdB n q) (n * n * n * n) with
  | some k =>
    obtain ⟨h1, h2, _⟩ := qdF_all hf
    exact ⟨fun _ => ⟨k, h1, h2⟩, fun _ => rfl⟩
  | none =>
    refine ⟨fun h => (by cases h), fun ⟨k, h1, h2⟩ => ?_⟩
    have : ∀ {m : Nat}, qdF (qdB n q) m = none → ∀ x, x < m → qdB n q x = false := fun {m} => by
      induction m with
      | zero => exact fun _ x hx => by omega
      | succ m ih =>
        intro h x hx
        rw [qdF] at h
        cases hm : qdF (qdB n q) m with
        | some a => rw [hm] at h; cases h
        | none =>
          rw [hm] at h
          change (if qdB n q m = true then some m else none) = none at h
          by_cases hxm : x = m
          · subst hxm
            cases hq : qdB n q x with
            | false => rfl
            | true => rw [hq, if_pos rfl] at h; cases h
          · exact ih hm x (by omega)
    rw [this hf k h1] at h2; cases h2
/-- There are such four just if some list of four different points is such. -/
theorem qdY_ex {n : Nat} {q : Nat → Nat → Nat → Nat → Bool} : qdY n q = true ↔ ∃ a b c d, a < n ∧ b < n ∧ c < n ∧ d < n ∧ qdD a b c d = true ∧ q a b c d = true := by
  rw [qdY_iff]
  constructor
  · rintro ⟨k, hk, h⟩
    have h0 : 0 < n := by
      rcases Nat.eq_zero_or_pos n with h | h
      · subst h; simp at hk
      · exact h
    unfold qdB at h
    rw [Bool.and_eq_true] at h
    exact ⟨_, _, _, _, Nat.div_lt_of_lt_mul hk, Nat.mod_lt _ h0, Nat.mod_lt _ h0, Nat.mod_lt _ h0, h.1, h.2⟩
  · rintro ⟨a, b, c, d, ha, hb, hc, hd, h1, h2⟩
    have h0 : 0 < n := by omega
    have hk : ((a * n + b) * n + c) * n + d < n * n * n * n := by
      have e1 : a * n + b < n * n := by
        have : (a + 1) * n ≤ n * n := Nat.mul_le_mul_right n ha
        rw [Nat.add_mul] at this; omega
      have e2 : (a * n + b) * n + c < n * n * n := by
        have : (a * n + b + 1) * n ≤ n * n * n := Nat.mul_le_mul_right n e1
        rw [Nat.add_mul] at this; omega
      have : ((a * n + b) * n + c + 1) * n ≤ n * n * n * n := Nat.mul_le_mul_right n e2
      rw [Nat.add_mul] at this; omega
    refine ⟨_, hk, ?_⟩
    have m1 : ∀ x y, y < n → (x * n + y) % n = y := fun x y hy => by rw [Nat.mul_comm, Nat.mul_add_mod, Nat.mod_eq_of_lt hy]
    have m2 : ∀ x y, y < n → (x * n + y) / n = x := fun x y hy => by rw [Nat.mul_comm, Nat.mul_add_div h0, Nat.div_eq_of_lt hy, Nat.add_zero]
    have d1 := m2 ((a * n + b) * n + c) d hd
    have d2 := m2 (a * n + b) c hc
    have d3 := m2 a b hb
    unfold qdB
    rw [show (((a * n + b) * n + c) * n + d) / (n * n * n) = a by rw [← Nat.div_div_eq_div_mul, ← Nat.div_div_eq_div_mul, d1, d2, d3],
      show (((a * n + b) * n + c) * n + d) / (n * n) % n = b by rw [← Nat.div_div_eq_div_mul, d1, d2, m1 _ _ hb],
      show (((a * n + b) * n + c) * n + d) / n % n = c by rw [d1, m1 _ _ hc], m1 _ _ hd, h1, h2]
    rfl
end Go.Proofs.YtbgecpjlopdkfaaDoor
set_option linter.unusedSimpArgs false
set_option linter.unusedVariables false
set_option linter.unusedSectionVars false
set_option maxRecDepth 20000
namespace Go.Proofs.YtbgecpjlopdkfaaDoor
attribute [local irreducible] QOp aL aC qL
def smP (L : List Int) (i : Nat) : Bool := (List.range i).any fun x => (List.range x).any fun y => decide (L.getD x 0 = L.getD y 0)
def smI (L : List Int) (i j : Nat) : Bool := (List.range j).any fun y => decide (L.getD i 0 = L.getD y 0)
end Go.Proofs.YtbgecpjlopdkfaaDoor
