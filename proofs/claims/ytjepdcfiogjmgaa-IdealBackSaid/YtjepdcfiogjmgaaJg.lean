import Derived.Test.YtjepdcfiogjmgaaIp
set_option linter.unusedSimpArgs false
set_option linter.unusedVariables false
set_option maxRecDepth 20000
namespace Go.Proofs.Ytjepdcfiogjmgaa
attribute [local irreducible] QOp aL aC qL
/-- How many of the first k. -/
def nc (p : Nat → Bool) : Nat → Nat
  | 0 => 0
  | k + 1 => if p k = true then nc p k + 1 else nc p k
theorem nc_zero {p : Nat → Bool} : ∀ {k : Nat}, nc p k = 0 ↔ ∀ y, y < k → p y = false
  | 0 => ⟨fun _ y hy => by omega, fun _ => rfl⟩
  | k + 1 => by
    unfold nc
    constructor
    · intro h y hy
      split at h
      · omega
      · rename_i hp
        by_cases hyk : y = k
        · subst hyk; simpa using hp
        · exact nc_zero.1 h y (by omega)
    · intro h
      rw [if_neg (by rw [h k (by omega)]; decide)]
      exact nc_zero.2 fun y hy => h y (by omega)
theorem nc_one {p : Nat → Bool} : ∀ {k : Nat}, nc p k = 1 ↔ ∃ c, c < k ∧ p c = true ∧ ∀ y, y < k → p y = true → y = c
  | 0 => ⟨fun h => (by cases h), fun ⟨c, hc, _⟩ => by omega⟩
  | k + 1 => by
    unfold nc
    by_cases hp : p k = true
    · rw [if_pos hp]
      constructor
      · intro h
        have h0 : nc p k = 0 := by omega
        refine ⟨k, by omega, hp, fun y hy hpy => ?_⟩
        by_cases hyk : y = k
        · exact hyk
        · rw [nc_zero.1 h0 y (by omega)] at hpy; cases hpy
      · rintro ⟨c, hc, hpc, hu⟩
        obtain rfl := hu k (by omega) hp
        have : nc p k = 0 := nc_zero.2 fun y hy => by
          cases hpy : p y
          · rfl
          · have := hu y (by omega) hpy; omega
        omega
    · rw [if_neg hp, nc_one]
      constructor
      · rintro ⟨c, hc, hpc, hu⟩
        refine ⟨c, by omega, hpc, fun y hy hpy => ?_⟩
        by_cases hyk : y = k
        · subst hyk; exact absurd hpy hp
        · exact hu y (by omega) hpy
      · rintro ⟨c, hc, hpc, hu⟩
        have hck : c ≠ k := fun e => hp (e ▸ hpc)
        exact ⟨c, by omega, hpc, fun y hy hpy => hu y (by omega) hpy⟩
/-- What is below x, and not x, taken together, as far as k. -/
def jnT (f g : Nat → Nat → Nat) (low x : Nat) : Nat → Nat
  | 0 => low
  | k + 1 => if k ≠ x ∧ f k x = k then g (jnT f g low x k) k else jnT f g low x k
/-- Does x cover y. -/
def CovP (n : Nat) (f : Nat → Nat → Nat) (x y : Nat) : Prop := (y ≠ x ∧ f y x = y) ∧ ∀ z, z < n → z = x ∨ z = y ∨ f y z ≠ y ∨ f z x ≠ z
instance (n : Nat) (f : Nat → Nat → Nat) (x y : Nat) : Decidable (CovP n f x y) := by unfold CovP; infer_instance
/-- From y up, as long as it is below x. -/
def upT (f : Nat → Nat → Nat) (x y : Nat) : Nat → Nat
  | 0 => y
  | k + 1 => if f (upT f x y k) k = upT f x y k ∧ k ≠ x ∧ f k x = k then k else upT f x y k
section
variable {n : Nat} {f g : Nat → Nat → Nat} (L : Lt n f g)
include L
theorem jn_facts {x : Nat} (hx : x < n) : ∀ k, k ≤ n → jnT f g (endE f n) x k < n ∧ f (jnT f g (endE f n) x k) x = jnT f g (endE f n) x k ∧ ∀ y, y < k → y ≠ x → f y x = y → f y (jnT f g (endE f n) x k) = y
  | 0, _ => ⟨endE_lt L.fl n (Nat.le_refl _) (by omega), endE_least L (by omega) n (Nat.le_refl _) x hx, fun y hy => by omega⟩
  | k + 1, hk => by
    obtain ⟨i1, i2, i3⟩ := jn_facts hx k (by omega)
    unfold jnT
    split
    · rename_i h
      have hkn : k < n := by omega
      refine ⟨L.gl _ _ i1 hkn, L.least i1 hkn hx i2 h.2, fun y hy hyx hle => ?_⟩
      by_cases hyk : y = k
      · subst hyk; exact L.above' i1 hkn
      · exact L.trans (by omega) i1 (L.gl _ _ i1 hkn) (i3 y (by omega) hyx hle) (L.above i1 hkn)
    · rename_i h
      refine ⟨i1, i2, fun y hy hyx hle => ?_⟩
      by_cases hyk : y = k
      · subst hyk; exact absurd ⟨hyx, hle⟩ h
      · exact i3 y (by omega) hyx hle
theorem jn_least {x c : Nat} (hx : x < n) (hc : c < n) (h : ∀ y, y < n → y ≠ x → f y x = y → f y c = y) : ∀ k, k ≤ n → f (jnT f g (endE f n) x k) c = jnT f g (endE f n) x k
  | 0, _ => endE_least L (by omega) n (Nat.le_refl _) c hc
  | k + 1, hk => by
    have ih := jn_least hx hc h k (by omega)
    unfold jnT
    split
    · rename_i hh
      exact L.least (jn_facts L hx k (by omega)).1 (by omega) hc ih (h k (by omega) hh.1 hh.2)
    · exact ih
theorem up_facts {x y : Nat} (hx : x < n) (hy : y < n) (hyx : y ≠ x) (hle : f y x = y) : ∀ k, k ≤ n → upT f x y k < n ∧ f y (upT f x y k) = y ∧ upT f x y k ≠ x ∧ f (upT f x y k) x = upT f x y k ∧ ∀ w, w < k → f (upT f x y k) w = upT f x y k → w ≠ x → f w x = w → w = upT f x y k
  | 0, _ => ⟨hy, L.idem hy, hyx, hle, fun w hw => by omega⟩
  | k + 1, hk => by
    obtain ⟨i1, i2, i3, i4, i5⟩ := up_facts hx hy hyx hle k (by omega)
    have hkn : k < n := by omega
    unfold upT
    split
    · rename_i h
      refine ⟨hkn, L.trans hy i1 hkn i2 h.1, h.2.1, h.2.2, fun w hw h1 h2 h3 => ?_⟩
      by_cases hwk : w = k
      · exact hwk
      · have e := i5 w (by omega) (L.trans i1 hkn (by omega) h.1 h1) h2 h3
        exact L.anti (by omega) hkn (by rw [e]; exact h.1) h1
    · rename_i h
      refine ⟨i1, i2, i3, i4, fun w hw h1 h2 h3 => ?_⟩
      by_cases hwk : w = k
      · subst hwk; exact absurd ⟨h1, h2, h3⟩ h
      · exact i5 w (by omega) h1 h2 h3
/-- Whatever is below x is below something that x covers. -/
theorem cov_above {x y : Nat} (hx : x < n) (hy : y < n) (hyx : y ≠ x) (hle : f y x = y) : ∃ c, c < n ∧ CovP n f x c ∧ f y c = y := by
  obtain ⟨i1, i2, i3, i4, i5⟩ := up_facts L hx hy hyx hle n (Nat.le_refl _)
  refine ⟨_, i1, ⟨⟨i3, i4⟩, fun z hz => ?_⟩, i2⟩
  by_cases h1 : z = x
  · exact .inl h1
  by_cases h2 : f (upT f x y n) z = upT f x y n
  · by_cases h3 : f z x = z
    · exact .inr (.inl (i5 z hz h2 h1 h3))
    · exact .inr (.inr (.inr h3))
  · exact .inr (.inr (.inl h2))
theorem irr_cov {x : Nat} (hx : x < n) : jnT f g (endE f n) x n ≠ x ↔ nc (fun y => decide (CovP n f x y)) n = 1 := by
  obtain ⟨i1, i2, i3⟩ := jn_facts L hx n (Nat.le_refl _)
  rw [nc_one]
  constructor
  · intro hne
    refine ⟨_, i1, decide_eq_true ⟨⟨hne, i2⟩, fun z hz => ?_⟩, fun y hy hc => ?_⟩
    · by_cases h1 : z = x
      · exact .inl h1
      by_cases h3 : f z x = z
      · have h4 := i3 z hz h1 h3
        by_cases h2 : f (jnT f g (endE f n) x n) z = jnT f g (endE f n) x n
        · exact .inr (.inl (L.anti hz i1 h4 h2))
        · exact .inr (.inr (.inl h2))
      · exact .inr (.inr (.inr h3))
    · obtain ⟨⟨c1, c2⟩, c3⟩ := of_decide_eq_true hc
      have h4 := i3 y hy c1 c2
      rcases c3 _ i1 with h | h | h | h
      · exact absurd h hne
      · exact h.symm
      · exact absurd h4 h
      · exact absurd i2 h
  · rintro ⟨c, hc, hcov, hu⟩ he
    obtain ⟨⟨c1, c2⟩, c3⟩ := of_decide_eq_true hcov
    have hl := jn_least L hx hc (fun y hy hyx hle => by
      obtain ⟨d, d1, d2, d3⟩ := cov_above L hx hy hyx hle
      rw [← hu d d1 (decide_eq_true d2)]; exact d3) n (Nat.le_refl _)
    rw [he] at hl
    exact c1 (L.anti hc hx c2 hl)
end
end Go.Proofs.Ytjepdcfiogjmgaa
