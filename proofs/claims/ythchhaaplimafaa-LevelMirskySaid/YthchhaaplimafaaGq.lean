/- The first of the longest chains: taken point by point, by how much is above (plain). -/
import Derived.Test.YthchhaaplimafaaGl
import Derived.Test.YthchhaaplimafaaFl
set_option linter.unusedSimpArgs false
set_option linter.unusedVariables false
namespace Go.Proofs.Ythchhaaplimafaa
attribute [local irreducible] QOp aL aC qL
/-- How many the longest chain above a point has. -/
def dep (n : Nat) (ns : List Nat) (b : Nat) : Nat := hgt n (ofn n (dualP ns)) b
theorem dep_at {n : Nat} {ns : List Nat} (hok : okB n ns = true) {b : Nat} (hb : b < n) : dep n ns b = 0 ∨ ∃ a, a < n ∧ lt ns b a = true ∧ dep n ns b = dep n ns a + 1 := by
  rcases hgt_at (okB_dual hok) hb with h | ⟨a, ha, h1, h2⟩
  · exact .inl h
  · exact .inr ⟨a, ha, by rw [← dual_lt ha hb]; exact h1, h2⟩
theorem dep_up {n : Nat} {ns : List Nat} (hok : okB n ns = true) {a b : Nat} (ha : a < n) (hb : b < n) (h : lt ns a b = true) : dep n ns b + 1 ≤ dep n ns a :=
  hgt_up (okB_dual hok) hb ha (by rw [dual_lt hb ha]; exact h)
theorem dep_le {n : Nat} {ns : List Nat} (hok : okB n ns = true) {b : Nat} (hb : b < n) : dep n ns b ≤ n := hgt_le (okB_dual hok) hb
theorem top_ge (n : Nat) (ns : List Nat) : ∀ k b, b < k → hgt n ns b + 1 ≤ top n ns k
  | 0, b, h => by omega
  | k + 1, b, h => by
    rw [top_succ]
    by_cases hb : b = k
    · subst hb; omega
    · have := top_ge n ns k b (by omega)
      omega
def topD (n : Nat) (ns : List Nat) : Nat := top n (ofn n (dualP ns)) n
theorem topD_ge {n : Nat} {ns : List Nat} {b : Nat} (hb : b < n) : dep n ns b + 1 ≤ topD n ns := top_ge n _ n b hb
theorem topD_at (n : Nat) (ns : List Nat) : topD n ns = 0 ∨ ∃ b, b < n ∧ topD n ns = dep n ns b + 1 := top_at n _ n
theorem topD_le {n : Nat} {ns : List Nat} (hok : okB n ns = true) : topD n ns ≤ n + 1 := top_le (okB_dual hok) n (Nat.le_refl n)
def lastN (l : List Nat) : Nat := l.getD (l.length - 1) 0
/-- May a point come next? -/
def elig (ns : List Nat) (l : List Nat) (p : Nat) : Bool := decide (l.length = 0) || lt ns (lastN l) p
def pickB (n : Nat) (ns : List Nat) (l : List Nat) (h p : Nat) : Bool := decide (dep n ns p = h) && elig ns l p
def pick (n : Nat) (ns : List Nat) (l : List Nat) (h : Nat) : Nat := ((List.range n).find? (pickB n ns l h)).getD 0
def lch (n : Nat) (ns : List Nat) : Nat → List Nat
  | 0 => []
  | k + 1 => lch n ns k ++ [pick n ns (lch n ns k) (topD n ns - (k + 1))]
theorem lastN_app (l : List Nat) (x : Nat) : lastN (l ++ [x]) = x := by simp [lastN, List.getD_eq_getElem?_getD]
theorem lch_len (n : Nat) (ns : List Nat) : ∀ k, (lch n ns k).length = k
  | 0 => rfl
  | k + 1 => by rw [lch, List.length_append, lch_len n ns k]; rfl
theorem pick_spec {n : Nat} {ns : List Nat} {l : List Nat} {h : Nat} (he : ∃ p, p < n ∧ pickB n ns l h p = true) : pick n ns l h < n ∧ pickB n ns l h (pick n ns l h) = true ∧ ∀ q, q < pick n ns l h → pickB n ns l h q = false := by
  obtain ⟨p, hp, hb⟩ := he
  unfold pick
  cases hf : (List.range n).find? (pickB n ns l h) with
  | none =>
    have := List.find?_eq_none.1 hf p (List.mem_range.2 hp)
    exact absurd hb this
  | some x =>
    have h1 := List.find?_some hf
    have h2 := List.mem_of_find?_eq_some hf
    refine ⟨List.mem_range.1 h2, h1, fun q hq => ?_⟩
    rw [List.find?_range_eq_some] at hf
    have := hf.2.2 q hq
    simpa using this
structure Lch (n : Nat) (ns : List Nat) (k : Nat) : Prop where
  lst : 0 < k → lastN (lch n ns k) < n ∧ dep n ns (lastN (lch n ns k)) = topD n ns - k
  up : ∀ p, p < n → elig ns (lch n ns k) p = true → dep n ns p + (k + 1) ≤ topD n ns
  ex : k < topD n ns → ∃ p, p < n ∧ pickB n ns (lch n ns k) (topD n ns - (k + 1)) p = true
theorem lch_ok {n : Nat} {ns : List Nat} (hok : okB n ns = true) : ∀ k, k ≤ topD n ns → Lch n ns k := by
  have key : ∀ k, k ≤ topD n ns → (0 < k → lastN (lch n ns k) < n ∧ dep n ns (lastN (lch n ns k)) = topD n ns - k) → Lch n ns k := by
    intro k hk hl
    have hlen := lch_len n ns k
    refine ⟨hl, fun p hp he => ?_, fun hlt => ?_⟩
    · by_cases h0 : k = 0
      · subst h0
        have := topD_ge (ns := ns) hp
        omega
      · obtain ⟨h1, h2⟩ := hl (by omega)
        rw [elig, hlen, decide_eq_false h0, Bool.false_or] at he
        have := dep_up hok h1 hp he
        omega
    · by_cases h0 : k = 0
      · subst h0
        rcases topD_at n ns with h | ⟨b, hb, h⟩
        · omega
        · refine ⟨b, hb, ?_⟩
          rw [pickB, elig, hlen, decide_eq_true (by omega), decide_eq_true rfl]
          rfl
      · obtain ⟨h1, h2⟩ := hl (by omega)
        rcases dep_at hok h1 with h | ⟨a, ha, h3, h4⟩
        · omega
        · refine ⟨a, ha, ?_⟩
          rw [pickB, elig, h3, decide_eq_true (by omega), Bool.or_true]
          rfl
  intro k
  induction k with
  | zero => exact fun hk => key 0 hk fun h => absurd h (Nat.lt_irrefl 0)
  | succ k ih =>
    intro hk
    have hp := pick_spec ((ih (by omega)).ex (by omega))
    refine key (k + 1) hk fun _ => ?_
    rw [lch, lastN_app]
    refine ⟨hp.1, ?_⟩
    have := hp.2.1
    rw [pickB, Bool.and_eq_true, decide_eq_true_eq] at this
    exact this.1
theorem lch_done {n : Nat} {ns : List Nat} (hok : okB n ns = true) {p : Nat} (hp : p < n) : elig ns (lch n ns (topD n ns)) p = false := by
  cases h : elig ns (lch n ns (topD n ns)) p
  · rfl
  · have := (lch_ok hok (topD n ns) (Nat.le_refl _)).up p hp h
    omega
/-- The best of the first i: a number one above it; nought where none may come. -/
def bst (n : Nat) (ns : List Nat) (l : List Nat) : Nat → Nat
  | 0 => 0
  | i + 1 => if elig ns l i = true ∧ (bst n ns l i = 0 ∨ dep n ns i > dep n ns (bst n ns l i - 1)) then i + 1 else bst n ns l i
theorem bst_spec (n : Nat) (ns : List Nat) (l : List Nat) : ∀ i, bst n ns l i ≤ i ∧ (bst n ns l i = 0 → ∀ p, p < i → elig ns l p = false) ∧
    (bst n ns l i ≠ 0 → elig ns l (bst n ns l i - 1) = true ∧ (∀ p, p < i → elig ns l p = true → dep n ns p ≤ dep n ns (bst n ns l i - 1)) ∧ ∀ p, p < bst n ns l i - 1 → elig ns l p = true → dep n ns p < dep n ns (bst n ns l i - 1))
  | 0 => ⟨Nat.le_refl 0, fun _ p hp => by omega, fun h => absurd rfl h⟩
  | i + 1 => by
    obtain ⟨h1, h2, h3⟩ := bst_spec n ns l i
    rw [bst]
    split
    · rename_i hc
      obtain ⟨hc1, hc2⟩ := hc
      refine ⟨Nat.le_refl _, fun h => by omega, fun _ => ?_⟩
      rw [Nat.add_sub_cancel]
      refine ⟨hc1, fun p hp he => ?_, fun p hp he => ?_⟩
      · by_cases hpi : p = i
        · subst hpi; exact Nat.le_refl _
        · rcases hc2 with hc2 | hc2
          · have := h2 hc2 p (by omega); rw [he] at this; cases this
          · by_cases h0 : bst n ns l i = 0
            · have := h2 h0 p (by omega); rw [he] at this; cases this
            · have := (h3 h0).2.1 p (by omega) he; omega
      · rcases hc2 with hc2 | hc2
        · have := h2 hc2 p (by omega); rw [he] at this; cases this
        · by_cases h0 : bst n ns l i = 0
          · have := h2 h0 p (by omega); rw [he] at this; cases this
          · have := (h3 h0).2.1 p (by omega) he; omega
    · rename_i hc
      refine ⟨by omega, fun h p hp => ?_, fun h => ⟨(h3 h).1, fun p hp he => ?_, (h3 h).2.2⟩⟩
      · by_cases hpi : p = i
        · subst hpi
          cases he : elig ns l p
          · rfl
          · exact absurd ⟨he, .inl h⟩ hc
        · exact h2 h p (by omega)
      · by_cases hpi : p = i
        · subst hpi
          by_cases hd : dep n ns p > dep n ns (bst n ns l p - 1)
          · exact absurd ⟨he, .inr hd⟩ hc
          · omega
        · exact (h3 h).2.1 p (by omega) he
theorem bst_pick {n : Nat} {ns : List Nat} (hok : okB n ns = true) {k : Nat} (hk : k < topD n ns) : bst n ns (lch n ns k) n = pick n ns (lch n ns k) (topD n ns - (k + 1)) + 1 := by
  have hl := lch_ok hok k (by omega)
  obtain ⟨p1, p2, p3⟩ := pick_spec (hl.ex hk)
  obtain ⟨b1, b2, b3⟩ := bst_spec n ns (lch n ns k) n
  generalize pick n ns (lch n ns k) (topD n ns - (k + 1)) = p at *
  have hpe : elig ns (lch n ns k) p = true ∧ dep n ns p = topD n ns - (k + 1) := by
    rw [pickB, Bool.and_eq_true, decide_eq_true_eq] at p2
    exact ⟨p2.2, p2.1⟩
  by_cases h0 : bst n ns (lch n ns k) n = 0
  · have := b2 h0 p p1
    rw [hpe.1] at this; cases this
  · obtain ⟨c1, c2, c3⟩ := b3 h0
    have e1 := hl.up _ (show bst n ns (lch n ns k) n - 1 < n by omega) c1
    have e2 := c2 p p1 hpe.1
    generalize hq : bst n ns (lch n ns k) n - 1 = q at *
    have hqp : q = p := by
      rcases Nat.lt_trichotomy q p with h | h | h
      · have := p3 q h
        rw [pickB, c1, decide_eq_true (by omega)] at this
        cases this
      · exact h
      · have := c3 p h hpe.1
        omega
    omega
theorem bst_none {n : Nat} {ns : List Nat} (hok : okB n ns = true) : bst n ns (lch n ns (topD n ns)) n = 0 := by
  obtain ⟨b1, b2, b3⟩ := bst_spec n ns (lch n ns (topD n ns)) n
  apply Classical.byContradiction
  intro h0
  have := (b3 h0).1
  rw [lch_done hok (by omega)] at this
  cases this
end Go.Proofs.Ythchhaaplimafaa
