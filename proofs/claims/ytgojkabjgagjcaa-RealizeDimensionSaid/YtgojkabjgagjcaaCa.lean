import Derived.Test.YtgojkabjgagjcaaIp
set_option linter.unusedSimpArgs false
set_option linter.unusedVariables false
set_option linter.unusedSectionVars false
set_option maxRecDepth 20000
namespace Go.Proofs.Ytgojkabjgagjcaa
/-- What is taken together goes together with both operations. -/
def Cpt (n : Nat) (f g : Nat → Nat → Nat) (c : List Nat) : Prop := ∀ x, x < n → ∀ y, y < n → c.getD x 0 = c.getD y 0 → ∀ z, z < n → c.getD (f x z) 0 = c.getD (f y z) 0 ∧ c.getD (g x z) 0 = c.getD (g y z) 0
instance (n : Nat) (f g : Nat → Nat → Nat) (c : List Nat) : Decidable (Cpt n f g c) := by unfold Cpt; infer_instance
/-- The next number. -/
def nxC (c : List Nat) (k : Nat) : Nat := (c.take k).foldl (fun m x => max m (x + 1)) 0
theorem nxC_0 (c : List Nat) : nxC c 0 = 0 := rfl
theorem tk_s {α : Type} (d : α) {c : List α} {k : Nat} (h : k < c.length) : c.take (k + 1) = c.take k ++ [c.getD k d] := by
  rw [List.take_add_one, List.getD_eq_getElem?_getD, List.getElem?_eq_getElem h]; rfl
theorem nxC_s {c : List Nat} {k : Nat} (h : k < c.length) : nxC c (k + 1) = max (nxC c k) (c.getD k 0 + 1) := by
  unfold nxC
  rw [tk_s 0 h, List.foldl_append]; rfl
def CanTo (c : List Nat) (k : Nat) : Prop := ∀ i, i < k → c.getD i 0 ≤ nxC c i
abbrev Can (c : List Nat) : Prop := CanTo c c.length
/-- All lesser numbers stand there. -/
theorem nxC_on {c : List Nat} {v : Nat} : ∀ k, k ≤ c.length → CanTo c k → v < nxC c k → ∃ i, i < k ∧ c.getD i 0 = v
  | 0, _, _, h => by rw [nxC_0] at h; omega
  | k + 1, h, hc, hv => by
    rw [nxC_s (by omega)] at hv
    have h1 := hc k (by omega)
    by_cases hk : v < nxC c k
    · obtain ⟨i, hi, e⟩ := nxC_on k (by omega) (fun i hi => hc i (by omega)) hk
      exact ⟨i, by omega, e⟩
    · exact ⟨k, by omega, by omega⟩
/-- Two numberings that tell the same classes are one. -/
theorem can_one {n : Nat} {c d : List Nat} (hc : c.length = n) (hd : d.length = n) (h1 : Can c) (h2 : Can d) (h : ∀ x, x < n → ∀ y, y < n → (c.getD x 0 = c.getD y 0 ↔ d.getD x 0 = d.getD y 0)) : c = d := by
  have key : ∀ k, k ≤ n → nxC c k = nxC d k ∧ ∀ i, i < k → c.getD i 0 = d.getD i 0 := by
    intro k
    induction k with
    | zero => exact fun _ => ⟨rfl, fun i hi => by omega⟩
    | succ k ih =>
      intro hk
      obtain ⟨e, ha⟩ := ih (by omega)
      have hcd : c.getD k 0 = d.getD k 0 := by
        by_cases hx : ∃ j, j < k ∧ c.getD j 0 = c.getD k 0
        · obtain ⟨j, hj, ej⟩ := hx
          rw [← ej, ha j hj]
          exact (h j (by omega) k (by omega)).1 ej
        · have a1 := h1 k (by omega)
          have a2 := h2 k (by omega)
          have b1 : ¬ c.getD k 0 < nxC c k := fun hl => by
            obtain ⟨i, hi, e2⟩ := nxC_on k (by omega) (fun i hi => h1 i (by omega)) hl
            exact hx ⟨i, hi, e2⟩
          have b2 : ¬ d.getD k 0 < nxC d k := fun hl => by
            obtain ⟨i, hi, e2⟩ := nxC_on k (by omega) (fun i hi => h2 i (by omega)) hl
            exact hx ⟨i, hi, (h i (by omega) k (by omega)).2 e2⟩
          omega
      refine ⟨?_, fun i hi => ?_⟩
      · rw [nxC_s (by omega), nxC_s (by omega), e, hcd]
      · by_cases e2 : i = k
        · subst e2; exact hcd
        · exact ha i (by omega)
  apply List.ext_getElem (by omega)
  intro i hi hi2
  have := (key n (Nat.le_refl _)).2 i (by omega)
  rwa [List.getD_eq_getElem?_getD, List.getD_eq_getElem?_getD, List.getElem?_eq_getElem hi, List.getElem?_eq_getElem hi2] at this
/-! Numbers in the order in which they come. -/
def seenC (c : List Nat) : Nat → List Nat
  | 0 => []
  | k + 1 => if c.getD k 0 ∈ seenC c k then seenC c k else seenC c k ++ [c.getD k 0]
def renC (c : List Nat) : Nat → List Nat
  | 0 => []
  | k + 1 => renC c k ++ [(seenC c k).idxOf (c.getD k 0)]
theorem renC_len (c : List Nat) : ∀ k, (renC c k).length = k
  | 0 => rfl
  | k + 1 => by rw [renC, List.length_append, renC_len c k]; rfl
theorem seenC_mem {c : List Nat} {v : Nat} : ∀ k, v ∈ seenC c k ↔ ∃ i, i < k ∧ c.getD i 0 = v
  | 0 => by simp [seenC]
  | k + 1 => by
    have ih := seenC_mem (c := c) (v := v) k
    rw [seenC]
    split
    · rename_i hm
      rw [ih]
      refine ⟨fun ⟨i, hi, e⟩ => ⟨i, by omega, e⟩, fun ⟨i, hi, e⟩ => ?_⟩
      by_cases hk : i = k
      · subst hk
        rw [e, ih] at hm
        exact hm
      · exact ⟨i, by omega, e⟩
    · rw [List.mem_append, ih, List.mem_singleton]
      constructor
      · rintro (⟨i, hi, e⟩ | e)
        · exact ⟨i, by omega, e⟩
        · exact ⟨k, by omega, e.symm⟩
      · rintro ⟨i, hi, e⟩
        by_cases hk : i = k
        · subst hk; exact .inr e.symm
        · exact .inl ⟨i, by omega, e⟩
theorem idx_app {l r : List Nat} {v : Nat} (h : v ∈ l) : (l ++ r).idxOf v = l.idxOf v := by rw [List.idxOf_append, if_pos h]
/-- The number of a place: where its class stands among those that are seen. -/
theorem renC_get {c : List Nat} : ∀ k i, i < k → (renC c k).getD i 0 = (seenC c k).idxOf (c.getD i 0)
  | 0, i, h => by omega
  | k + 1, i, h => by
    have hs : ∀ v, v ∈ seenC c k → (seenC c (k + 1)).idxOf v = (seenC c k).idxOf v := fun v hv => by
      rw [seenC]; split
      · rfl
      · exact idx_app hv
    rw [renC]
    by_cases hk : i = k
    · subst hk
      rw [List.getD_eq_getElem?_getD, List.getElem?_append_right (by rw [renC_len]; exact Nat.le_refl _), renC_len, Nat.sub_self]
      show (seenC c i).idxOf (c.getD i 0) = _
      rw [seenC]
      split
      · rfl
      · rename_i hm
        rw [List.idxOf_append, if_neg hm, List.idxOf_eq_length hm]
        simp
    · have ih := renC_get (c := c) k i (by omega)
      rw [List.getD_eq_getElem?_getD, List.getElem?_append_left (by rw [renC_len]; omega), ← List.getD_eq_getElem?_getD, ih]
      exact (hs _ ((seenC_mem k).2 ⟨i, by omega, rfl⟩)).symm
theorem renC_take {c : List Nat} : ∀ k j, j ≤ k → (renC c k).take j = renC c j
  | 0, j, h => by obtain rfl : j = 0 := by omega
                  rfl
  | k + 1, j, h => by
    by_cases hj : j = k + 1
    · subst hj; rw [List.take_of_length_le (by rw [renC_len]; exact Nat.le_refl _)]
    · rw [renC, List.take_append_of_le_length (by rw [renC_len]; omega), renC_take k j (by omega)]
theorem renC_nx {c : List Nat} : ∀ k, nxC (renC c k) k = (seenC c k).length
  | 0 => rfl
  | k + 1 => by
    have ih := renC_nx (c := c) k
    have hk : k < (renC c (k + 1)).length := by rw [renC_len]; omega
    have e1 : nxC (renC c (k + 1)) k = (seenC c k).length := by
      rw [← ih]; unfold nxC
      rw [renC_take (k + 1) k (by omega), List.take_of_length_le (by rw [renC_len]; exact Nat.le_refl _)]
    have e2 : (renC c (k + 1)).getD k 0 = (seenC c k).idxOf (c.getD k 0) := by
      rw [renC, List.getD_eq_getElem?_getD, List.getElem?_append_right (by rw [renC_len]; exact Nat.le_refl _), renC_len, Nat.sub_self]; rfl
    rw [nxC_s hk, e1, e2, seenC]
    split
    · rename_i hm
      have := List.idxOf_lt_length_iff.2 hm
      omega
    · rename_i hm
      rw [List.idxOf_eq_length hm, List.length_append, List.length_singleton]; omega
theorem renC_can {c : List Nat} {k : Nat} : Can (renC c k) := by
  intro i hi
  rw [renC_len] at hi
  have e : nxC (renC c k) i = (seenC c i).length := by
    rw [← renC_nx i]; unfold nxC
    rw [renC_take k i (by omega), List.take_of_length_le (by rw [renC_len]; exact Nat.le_refl _)]
  have e2 : (renC c k).getD i 0 = (renC c (i + 1)).getD i 0 := by
    rw [← renC_take k (i + 1) (by omega), List.getD_eq_getElem?_getD, List.getD_eq_getElem?_getD, List.getElem?_take, if_pos (by omega)]
  have e3 : (renC c (i + 1)).getD i 0 = (seenC c i).idxOf (c.getD i 0) := by
    rw [renC, List.getD_eq_getElem?_getD, List.getElem?_append_right (by rw [renC_len]; exact Nat.le_refl _), renC_len, Nat.sub_self]; rfl
  rw [e, e2, e3]
  exact List.idxOf_le_length
theorem renC_eq {c : List Nat} {k x y : Nat} (hx : x < k) (hy : y < k) : (renC c k).getD x 0 = (renC c k).getD y 0 ↔ c.getD x 0 = c.getD y 0 := by
  rw [renC_get k x hx, renC_get k y hy]
  refine ⟨fun h => ?_, fun h => by rw [h]⟩
  have h1 : c.getD x 0 ∈ seenC c k := (seenC_mem k).2 ⟨x, hx, rfl⟩
  have h2 : c.getD y 0 ∈ seenC c k := (seenC_mem k).2 ⟨y, hy, rfl⟩
  have l1 := List.idxOf_lt_length_iff.2 h1
  have l2 := List.idxOf_lt_length_iff.2 h2
  have g1 := List.getElem_idxOf l1
  have g2 := List.getElem_idxOf l2
  rw [← g1, ← g2]
  congr 1
/-! The least congruence that has some pairs. -/
structure Cg (n : Nat) (f g : Nat → Nat → Nat) (c : List Nat) : Prop where
  len : c.length = n
  can : Can c
  cpt : Cpt n f g c
structure Lst (n : Nat) (f g : Nat → Nat → Nat) (R : Nat → Nat → Prop) (c : List Nat) : Prop where
  cg : Cg n f g c
  has : ∀ x y, R x y → c.getD x 0 = c.getD y 0
  least : ∀ d : List Nat, Cpt n f g d → (∀ x y, R x y → d.getD x 0 = d.getD y 0) → ∀ x, x < n → ∀ y, y < n → c.getD x 0 = c.getD y 0 → d.getD x 0 = d.getD y 0
theorem Lst.one {n : Nat} {f g : Nat → Nat → Nat} {R R' : Nat → Nat → Prop} {c d : List Nat} (h : Lst n f g R c) (h' : Lst n f g R' d) (h1 : ∀ x y, R x y → d.getD x 0 = d.getD y 0) (h2 : ∀ x y, R' x y → c.getD x 0 = c.getD y 0) : c = d :=
  can_one h.cg.len h'.cg.len h.cg.can h'.cg.can fun x hx y hy => ⟨fun e => h.least d h'.cg.cpt h1 x hx y hy e, fun e => h'.least c h.cg.cpt h2 x hx y hy e⟩
end Go.Proofs.Ytgojkabjgagjcaa
