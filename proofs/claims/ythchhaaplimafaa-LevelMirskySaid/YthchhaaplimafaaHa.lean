/- Levels are antichains, which part the points; as many as the longest chain has points, and no fewer will do (plain). -/
import Derived.Test.YthchhaaplimafaaGw
import Derived.Test.YthchhaaplimafaaGo
set_option linter.unusedSimpArgs false
set_option linter.unusedVariables false
namespace Go.Proofs.Ythchhaaplimafaa
attribute [local irreducible] QOp aL aC qL
theorem top_dep {n : Nat} {ns : List Nat} (hok : okB n ns = true) : ∀ d p, p < n → dep n ns p = d → ∃ q, q < n ∧ hgt n ns p + d ≤ hgt n ns q
  | 0, p, hp, _ => ⟨p, hp, Nat.le_refl _⟩
  | d + 1, p, hp, hd => by
    rcases dep_at hok hp with h | ⟨a, ha, h1, h2⟩
    · omega
    · obtain ⟨q, hq, h3⟩ := top_dep hok d a ha (by omega)
      have := hgt_up hok hp ha h1
      exact ⟨q, hq, by omega⟩
theorem topD_le_top {n : Nat} {ns : List Nat} (hok : okB n ns = true) : topD n ns ≤ top n ns n := by
  rcases topD_at n ns with h | ⟨b, hb, h⟩
  · omega
  · obtain ⟨q, hq, h1⟩ := top_dep hok _ b hb rfl
    have := top_ge n ns n q hq
    omega
theorem topD_eq {n : Nat} {ns : List Nat} (hv : Vld n ns) (hok : okB n ns = true) : topD n ns = top n ns n := by
  have h1 := topD_le_top hok
  have h2 := topD_le_top (okB_dual hok)
  unfold topD at h2
  rw [dual_dual hv] at h2
  unfold topD at h1 ⊢
  omega
theorem levS_bit (n : Nat) (ns : List Nat) (h p : Nat) : ∀ k, (levS n ns k h).testBit p = (decide (p < k) && decide (hgt n ns p = h))
  | 0 => by simp [levS, iterN]
  | k + 1 => by
    rw [levS_succ]
    have ih := levS_bit n ns h p k
    by_cases hk : hgt n ns k = h
    · rw [if_pos hk, Nat.testBit_or, ih, Nat.testBit_two_pow]
      by_cases hpk : p = k
      · subst hpk; simp [hk]
      · rw [decide_eq_false (Ne.symm hpk), Bool.or_false, show decide (p < k + 1) = decide (p < k) from decide_eq_decide.2 (by omega)]
    · rw [if_neg hk, ih]
      by_cases hpk : p = k
      · subst hpk; simp [hk]
      · rw [show decide (p < k + 1) = decide (p < k) from decide_eq_decide.2 (by omega)]
def antiB (n : Nat) (ns : List Nat) (s : Nat) : Bool := (List.range n).all fun i => (List.range n).all fun k => !(s.testBit i && s.testBit k && lt ns i k)
theorem anti_iff {n : Nat} {ns : List Nat} {s : Nat} : antiB n ns s = true ↔ ∀ i, i < n → ∀ k, k < n → s.testBit i = true → s.testBit k = true → lt ns i k = false := by
  unfold antiB
  simp only [List.all_eq_true, List.mem_range, Bool.not_eq_true', Bool.and_eq_false_iff]
  constructor
  · intro h i hi k hk h1 h2
    rcases h i hi k hk with (h3 | h3) | h3
    · rw [h1] at h3; cases h3
    · rw [h2] at h3; cases h3
    · exact h3
  · intro h i hi k hk
    cases h1 : s.testBit i
    · exact .inl (.inl rfl)
    · cases h2 : s.testBit k
      · exact .inl (.inr rfl)
      · exact .inr (h i hi k hk h1 h2)
theorem levS_anti {n : Nat} {ns : List Nat} (hok : okB n ns = true) (h : Nat) : antiB n ns (levS n ns n h) = true := by
  rw [anti_iff]
  intro i hi k hk h1 h2
  rw [levS_bit, Bool.and_eq_true, decide_eq_true_eq, decide_eq_true_eq] at h1 h2
  cases hl : lt ns i k
  · rfl
  · have := hgt_up hok hi hk hl
    omega
theorem lev_sum {n : Nat} {ns : List Nat} {T : Nat} : ∀ k, (∀ j, j < k → hgt n ns j < T) → sumTo (levS n ns k) T + 1 = 2 ^ k
  | 0, _ => by
    rw [sumTo_zero (fun i _ => show levS n ns 0 i = 0 from rfl)]
  | k + 1, h => by
    have ih := lev_sum (T := T) k fun j hj => h j (by omega)
    have hk := h k (by omega)
    have e : ∀ M, sumTo (levS n ns (k + 1)) M = sumTo (levS n ns k) M + if hgt n ns k < M then 2 ^ k else 0 := by
      intro M
      induction M with
      | zero => rfl
      | succ M ihM =>
        show sumTo (levS n ns (k + 1)) M + levS n ns (k + 1) M = sumTo (levS n ns k) M + levS n ns k M + _
        rw [ihM, levS_succ]
        by_cases h1 : hgt n ns k = M
        · rw [if_pos h1, if_neg (by omega), if_pos (by omega), ← levS_add]
          omega
        · rw [if_neg h1]
          by_cases h2 : hgt n ns k < M
          · rw [if_pos h2, if_pos (by omega)]; omega
          · rw [if_neg h2, if_neg (by omega)]; omega
    rw [e, if_pos hk, Nat.pow_succ]
    omega
theorem pigeon : ∀ (L T : Nat) (f : Nat → Nat), (∀ i, i < T → f i < L) → (∀ i j, i < j → j < T → f i ≠ f j) → T ≤ L
  | 0, T, f, h, _ => by
    rcases Nat.eq_zero_or_pos T with h0 | h0
    · omega
    · have := h 0 h0; omega
  | L + 1, T, f, h, hi => by
    by_cases hq : ∃ i, i < T ∧ f i = L
    · obtain ⟨i, hiT, hfi⟩ := hq
      have := pigeon L (T - 1) (fun j => if j < i then f j else f (j + 1)) (fun j hj => by
        show (if j < i then f j else f (j + 1)) < L
        split
        · rename_i hji
          have h1 := h j (by omega)
          have h2 := hi j i hji hiT
          omega
        · rename_i hji
          have h1 := h (j + 1) (by omega)
          have h2 := hi i (j + 1) (by omega) (by omega)
          omega) (fun a b hab hb => by
        show (if a < i then f a else f (a + 1)) ≠ (if b < i then f b else f (b + 1))
        split <;> split
        · exact hi a b hab (by omega)
        · exact hi a (b + 1) (by omega) (by omega)
        · omega
        · exact hi (a + 1) (b + 1) (by omega) (by omega))
      omega
    · have := pigeon L T f (fun i hiT => by
        have h1 := h i hiT
        have h2 : f i ≠ L := fun h3 => hq ⟨i, hiT, h3⟩
        omega) hi
      omega
theorem lch_mem {n : Nat} {ns : List Nat} (hok : okB n ns = true) : ∀ k, k ≤ topD n ns → ∀ i, i < k → (lch n ns k).getD i 0 < n
  | 0, _, i, hi => by omega
  | k + 1, hk, i, hi => by
    have hl := lch_len n ns k
    rw [lch]
    by_cases hik : i = k
    · have := (pick_spec ((lch_ok hok k (by omega)).ex (by omega))).1
      rw [List.getD_eq_getElem?_getD, List.getElem?_append_right (by omega)]
      simpa [hik, hl] using this
    · have := lch_mem hok k (by omega) i (by omega)
      rw [List.getD_eq_getElem?_getD, List.getElem?_append_left (by omega), ← List.getD_eq_getElem?_getD]
      exact this
theorem lch_up {n : Nat} {ns : List Nat} (hok : okB n ns = true) : ∀ k, k ≤ topD n ns → ∀ i, i + 1 < k → lt ns ((lch n ns k).getD i 0) ((lch n ns k).getD (i + 1) 0) = true
  | 0, _, i, hi => by omega
  | k + 1, hk, i, hi => by
    have hl := lch_len n ns k
    rw [lch]
    by_cases hik : i + 1 = k
    · have := (pick_spec ((lch_ok hok k (by omega)).ex (by omega))).2.1
      rw [pickB, Bool.and_eq_true] at this
      have h2 := this.2
      rw [elig, hl, decide_eq_false (by omega), Bool.false_or] at h2
      rw [List.getD_eq_getElem?_getD, List.getElem?_append_left (by omega), ← List.getD_eq_getElem?_getD, List.getD_eq_getElem?_getD (l := _ ++ _), List.getElem?_append_right (by omega)]
      unfold lastN at h2
      rw [hl, show k - 1 = i by omega] at h2
      simpa [hik, hl] using h2
    · have := lch_up hok k (by omega) i (by omega)
      rw [List.getD_eq_getElem?_getD, List.getElem?_append_left (by omega), ← List.getD_eq_getElem?_getD, List.getD_eq_getElem?_getD (l := _ ++ _), List.getElem?_append_left (by omega), ← List.getD_eq_getElem?_getD]
      exact this
theorem lch_chain {n : Nat} {ns : List Nat} (hok : okB n ns = true) {i : Nat} : ∀ d, i + (d + 1) < topD n ns → lt ns ((lch n ns (topD n ns)).getD i 0) ((lch n ns (topD n ns)).getD (i + (d + 1)) 0) = true
  | 0, h => lch_up hok _ (Nat.le_refl _) i h
  | d + 1, h => by
    have h1 := lch_chain hok (i := i) d (by omega)
    have h2 := lch_up hok _ (Nat.le_refl _) (i + (d + 1)) (by omega)
    exact okB_tr hok (lch_mem hok _ (Nat.le_refl _) _ (by omega)) (lch_mem hok _ (Nat.le_refl _) _ (by omega)) h2 h1
/-- What the first k sets have together. -/
def orsTo (l : List Nat) : Nat → Nat
  | 0 => 0
  | k + 1 => orsTo l k ||| l.getD k 0
theorem orsTo_bit {l : List Nat} {p : Nat} : ∀ {k : Nat}, (orsTo l k).testBit p = true → ∃ i, i < k ∧ (l.getD i 0).testBit p = true
  | 0, h => by rw [orsTo, Nat.zero_testBit] at h; cases h
  | k + 1, h => by
    rw [orsTo, Nat.testBit_or, Bool.or_eq_true] at h
    rcases h with h | h
    · obtain ⟨i, hi, h1⟩ := orsTo_bit h
      exact ⟨i, by omega, h1⟩
    · exact ⟨k, by omega, h⟩
theorem mirsky {n : Nat} {ns : List Nat} (hok : okB n ns = true) {l : List Nat} (ha : ∀ i, i < l.length → antiB n ns (l.getD i 0) = true) (hs : orsTo l l.length = 2 ^ n - 1) : topD n ns ≤ l.length := by
  have hm := fun i hi => lch_mem hok (topD n ns) (Nat.le_refl _) i hi
  have hex : ∀ i, ∃ j, i < topD n ns → j < l.length ∧ (l.getD j 0).testBit ((lch n ns (topD n ns)).getD i 0) = true := fun i => by
    by_cases hi : i < topD n ns
    · obtain ⟨j, h1, h2⟩ := orsTo_bit (l := l) (p := (lch n ns (topD n ns)).getD i 0) (k := l.length) (by
        rw [hs, Nat.testBit_two_pow_sub_one, decide_eq_true (hm i hi)])
      exact ⟨j, fun _ => ⟨h1, h2⟩⟩
    · exact ⟨0, fun h => absurd h hi⟩
  refine pigeon _ _ (fun i => Classical.choose (hex i)) (fun i hi => (Classical.choose_spec (hex i) hi).1) fun i j hij hj h => ?_
  have h1 := Classical.choose_spec (hex i) (by omega)
  have h2 := Classical.choose_spec (hex j) hj
  have h' : Classical.choose (hex i) = Classical.choose (hex j) := h
  rw [h'] at h1
  have h3 := anti_iff.1 (ha _ h2.1) _ (hm i (by omega)) _ (hm j hj) h1.2 h2.2
  obtain ⟨d, hd⟩ : ∃ d, j = i + (d + 1) := ⟨j - i - 1, by omega⟩
  have h4 := lch_chain hok (i := i) d (by omega)
  rw [← hd, h3] at h4
  cases h4
end Go.Proofs.Ythchhaaplimafaa
