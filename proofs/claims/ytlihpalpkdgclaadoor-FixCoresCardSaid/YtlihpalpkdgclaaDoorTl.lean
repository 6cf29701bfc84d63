import Derived.Test.YtlihpalpkdgclaaDoorTi
import Derived.Test.YtlihpalpkdgclaaDoorTf
set_option linter.unusedSimpArgs false
set_option linter.unusedVariables false
set_option linter.unusedSectionVars false
set_option maxRecDepth 20000
namespace Go.Proofs.YtlihpalpkdgclaaDoor
attribute [local irreducible] QOp aL aC qL
/-- Covers counted. -/
theorem nEnd_app (L M : List (Nat × Nat)) (i : Nat) : nEnd (L ++ M) i (L ++ M).length = nEnd L i L.length + nEnd M i M.length := by
  have pre : ∀ k, k ≤ L.length → nEnd (L ++ M) i k = nEnd L i k := by
    intro k
    induction k with
    | zero => intro _; rfl
    | succ k ih =>
      intro hk
      rw [nEnd, nEnd, ih (by omega)]
      have : (L ++ M).getD k (0, 0) = L.getD k (0, 0) := by rw [List.getD_eq_getElem?_getD, List.getD_eq_getElem?_getD, List.getElem?_append_left (by omega)]
      rw [this]
  have post : ∀ k, nEnd (L ++ M) i (L.length + k) = nEnd L i L.length + nEnd M i k := by
    intro k
    induction k with
    | zero => exact pre _ (Nat.le_refl _)
    | succ k ih =>
      show nEnd (L ++ M) i (L.length + k + 1) = _
      rw [nEnd, nEnd, ih]
      have : (L ++ M).getD (L.length + k) (0, 0) = M.getD k (0, 0) := by rw [List.getD_eq_getElem?_getD, List.getD_eq_getElem?_getD, List.getElem?_append_right (by omega), Nat.add_sub_cancel_left]
      rw [this]
      split <;> omega
  rw [List.length_append]
  exact post _
theorem nBeg_app (L M : List (Nat × Nat)) (i : Nat) : nBeg (L ++ M) i (L ++ M).length = nBeg L i L.length + nBeg M i M.length := by
  have pre : ∀ k, k ≤ L.length → nBeg (L ++ M) i k = nBeg L i k := by
    intro k
    induction k with
    | zero => intro _; rfl
    | succ k ih =>
      intro hk
      rw [nBeg, nBeg, ih (by omega)]
      have : (L ++ M).getD k (0, 0) = L.getD k (0, 0) := by rw [List.getD_eq_getElem?_getD, List.getD_eq_getElem?_getD, List.getElem?_append_left (by omega)]
      rw [this]
  have post : ∀ k, nBeg (L ++ M) i (L.length + k) = nBeg L i L.length + nBeg M i k := by
    intro k
    induction k with
    | zero => exact pre _ (Nat.le_refl _)
    | succ k ih =>
      show nBeg (L ++ M) i (L.length + k + 1) = _
      rw [nBeg, nBeg, ih]
      have : (L ++ M).getD (L.length + k) (0, 0) = M.getD k (0, 0) := by rw [List.getD_eq_getElem?_getD, List.getD_eq_getElem?_getD, List.getElem?_append_right (by omega), Nat.add_sub_cancel_left]
      rw [this]
      split <;> omega
  rw [List.length_append]
  exact post _
theorem nEnd_row (f : Nat → Nat → Bool) (a i : Nat) : ∀ b, nEnd (rowTo f a b) i (rowTo f a b).length = if i < b ∧ f a i = true then 1 else 0
  | 0 => by rw [if_neg (by omega)]; rfl
  | b + 1 => by
    have ih := nEnd_row f a i b
    rw [rowTo_succ]
    by_cases h : f a b = true
    · rw [if_pos h, nEnd_app, ih]
      show _ + (if (b : Nat) = i then 0 + 1 else 0) = _
      by_cases e : b = i
      · subst e
        rw [if_neg (by omega), if_pos rfl, if_pos ⟨by omega, h⟩]
      · rw [if_neg e]
        by_cases h2 : i < b ∧ f a i = true
        · rw [if_pos h2, if_pos ⟨by omega, h2.2⟩]
        · rw [if_neg h2, if_neg fun h3 => h2 ⟨by omega, h3.2⟩]
    · rw [if_neg h, ih]
      by_cases h2 : i < b ∧ f a i = true
      · rw [if_pos h2, if_pos ⟨by omega, h2.2⟩]
      · rw [if_neg h2, if_neg]
        rintro ⟨h3, h4⟩
        by_cases e : i = b
        · subst e; exact h h4
        · exact h2 ⟨by omega, h4⟩
theorem nBeg_row (f : Nat → Nat → Bool) (a i : Nat) : ∀ b, nBeg (rowTo f a b) i (rowTo f a b).length = if a = i then cqN (f a) b else 0
  | 0 => by split <;> rfl
  | b + 1 => by
    have ih := nBeg_row f a i b
    rw [rowTo_succ, cqN]
    by_cases h : f a b = true
    · rw [if_pos h, nBeg_app, ih, if_pos h]
      show _ + (if (a : Nat) = i then 0 + 1 else 0) = _
      split <;> omega
    · rw [if_neg h, ih, if_neg h]
theorem nEnd_prs (n : Nat) (f : Nat → Nat → Bool) {i : Nat} (hi : i < n) : ∀ a, nEnd (prsTo n f a) i (prsTo n f a).length = cqN (fun k => f k i) a
  | 0 => rfl
  | a + 1 => by
    rw [prsTo_succ, nEnd_app, nEnd_prs n f hi a, nEnd_row, cqN]
    by_cases h : f a i = true
    · rw [if_pos ⟨hi, h⟩, if_pos h]
    · rw [if_neg fun h2 => h h2.2, if_neg h]; rfl
theorem nBeg_prs (n : Nat) (f : Nat → Nat → Bool) (i : Nat) : ∀ a, nBeg (prsTo n f a) i (prsTo n f a).length = if i < a then cqN (f i) n else 0
  | 0 => by rw [if_neg (by omega)]; rfl
  | a + 1 => by
    rw [prsTo_succ, nBeg_app, nBeg_prs n f i a, nBeg_row]
    by_cases h : a = i
    · subst h
      rw [if_neg (by omega), if_pos rfl, if_pos (by omega)]; omega
    · rw [if_neg h]
      by_cases h2 : i < a
      · rw [if_pos h2, if_pos (by omega)]; rfl
      · rw [if_neg h2, if_neg (by omega)]
/-- The covers of what is left of an order. -/
def cvQ (ns : List Nat) (s : Nat) (a b : Nat) : Bool := pf (mbs s).length (ofn (mbs s).length (plP ns (mbs s))) true a b
theorem lsQ_eq {ns : List Nat} {s i : Nat} (hi : i < (mbs s).length) : lsQ ns s i = (decide (cqN (fun k => cvQ ns s k i) (mbs s).length = 1) || decide (cqN (cvQ ns s i) (mbs s).length = 1)) := by
  unfold lsQ cvL
  rw [nEnd_prs _ _ hi, nBeg_prs, if_pos hi]
  rfl
/-- Who goes: looked for from the last one on. -/
def gnR (q : Nat → Bool) (L : List Nat) (n : Nat) : Nat → Int
  | 0 => -1
  | d + 1 => if q (n - (d + 1)) = true then (L.getD (n - (d + 1)) 0 : Nat) else gnR q L n d
theorem gnR_none {q : Nat → Bool} {L : List Nat} {n : Nat} (h : ∀ i, i < n → q i = false) : ∀ d, d ≤ n → gnR q L n d = -1
  | 0, _ => rfl
  | d + 1, hd => by
    rw [gnR, if_neg (by rw [h _ (by omega)]; decide)]
    exact gnR_none h d (by omega)
theorem gnR_some {q : Nat → Bool} {L : List Nat} {n i : Nat} (hi : i < n) (h1 : q i = true) (h2 : ∀ j, j < i → q j = false) : ∀ d, d ≤ n → n - d ≤ i → gnR q L n d = (L.getD i 0 : Nat)
  | 0, _, h => by omega
  | d + 1, hd, h => by
    rw [gnR]
    by_cases e : n - (d + 1) = i
    · rw [e, if_pos h1]
    · rw [if_neg (by rw [h2 _ (by omega)]; decide)]
      exact gnR_some hi h1 h2 d (by omega) (by omega)
theorem gnR_ge (q : Nat → Bool) (L : List Nat) (n : Nat) : ∀ d, -1 ≤ gnR q L n d
  | 0 => Int.le_refl _
  | d + 1 => by
    rw [gnR]
    split
    · omega
    · exact gnR_ge q L n d
end Go.Proofs.YtlihpalpkdgclaaDoor
