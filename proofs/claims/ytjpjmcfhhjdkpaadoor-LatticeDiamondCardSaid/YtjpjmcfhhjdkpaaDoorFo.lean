/- Weights that rise: the program's word and the reference's are one. -/
import Derived.Test.YtjpjmcfhhjdkpaaDoorFn
set_option linter.unusedSimpArgs false
set_option linter.unusedVariables false
set_option maxRecDepth 20000
namespace Go.Proofs.YtjpjmcfhhjdkpaaDoor
attribute [local irreducible] QOp aL aC qL
def sub (a b : Nat) : Bool := ndiff a b == 0
theorem sub_iff {a b : Nat} : sub a b = true ↔ ∀ i, a.testBit i = true → b.testBit i = true := by
  unfold sub; rw [beq_iff_eq]; exact ndiff_zero
theorem sub_false {a b i : Nat} (h1 : a.testBit i = true) (h2 : b.testBit i = false) : sub a b = false := by
  cases h : sub a b
  · rfl
  · have := sub_iff.1 h i h1
    rw [h2] at this; cases this

theorem bit_odd (x j : Nat) : (x / 2 ^ j % 2 = 1) ↔ x.testBit j = true := by rw [Nat.testBit_eq_decide_div_mod_eq, decide_eq_true_eq]

def risesP (n : Nat) (f : List Int) : Bool := (List.range (2 ^ n)).all fun s => (List.range n).all fun p => !decide (f.getD (s ||| 2 ^ p) 0 < f.getD s 0)
def rising (n : Nat) (f : List Int) : Bool := (List.range (2 ^ n)).all fun a => (List.range (2 ^ n)).all fun b => !(sub a b && decide (f.getD a 0 > f.getD b 0))

theorem or_mod (b k : Nat) : b % 2 ^ (k + 1) = if b.testBit k = true then b % 2 ^ k ||| 2 ^ k else b % 2 ^ k := by
  apply Nat.eq_of_testBit_eq
  intro i
  split
  · rename_i h
    simp only [Nat.testBit_or, Nat.testBit_mod_two_pow, Nat.testBit_two_pow]
    by_cases hi : i = k
    · subst hi; simp [h]
    · by_cases h2 : i < k
      · simp [h2, show i < k + 1 by omega, show ¬ k = i by omega]
      · simp [h2, show ¬ i < k + 1 by omega, show ¬ k = i by omega]
  · rename_i h
    simp only [Nat.testBit_mod_two_pow]
    by_cases hi : i = k
    · subst hi; simp [h]
    · by_cases h2 : i < k
      · simp [h2, show i < k + 1 by omega]
      · simp [h2, show ¬ i < k + 1 by omega]
theorem climb {n : Nat} {f : List Int} (h : ∀ s, s < 2 ^ n → ∀ p, p < n → f.getD s 0 ≤ f.getD (s ||| 2 ^ p) 0) {a b : Nat} (ha : a < 2 ^ n) (hb : b < 2 ^ n) : ∀ k, k ≤ n → f.getD a 0 ≤ f.getD (a ||| b % 2 ^ k) 0
  | 0, _ => by simp [Nat.mod_one]
  | k + 1, hk => by
    have ih := climb h ha hb k (by omega)
    rw [or_mod]
    split
    · have hlt : a ||| b % 2 ^ k < 2 ^ n := Nat.or_lt_two_pow ha (Nat.lt_of_le_of_lt (Nat.mod_le _ _) hb)
      have := h _ hlt k (by omega)
      rw [Nat.or_assoc] at this
      exact Int.le_trans ih this
    · exact ih
theorem rise_eq (n : Nat) (f : List Int) : risesP n f = rising n f := by
  rw [Bool.eq_iff_iff]
  simp only [risesP, rising, List.all_eq_true, List.mem_range, Bool.not_eq_true', Bool.and_eq_false_iff, decide_eq_false_iff_not, gt_iff_lt, Int.not_lt]
  constructor
  · intro h a ha b hb
    cases hs : sub a b
    · exact .inl rfl
    · right
      have := climb h ha hb n (Nat.le_refl n)
      rw [Nat.mod_eq_of_lt hb] at this
      have e : a ||| b = b := by
        apply Nat.eq_of_testBit_eq
        intro i
        rw [Nat.testBit_or]
        cases hi : a.testBit i
        · rfl
        · rw [sub_iff.1 hs i hi]; rfl
      rw [e] at this
      omega
  · intro h s hs p hp
    have hlt : s ||| 2 ^ p < 2 ^ n := Nat.or_lt_two_pow hs (Nat.pow_lt_pow_right (by decide) hp)
    rcases h s hs _ hlt with h1 | h1
    · rw [sub_iff.2 (fun i hi => by rw [Nat.testBit_or, hi]; rfl)] at h1
      cases h1
    · omega

/-! Walked. -/
theorem wchk_zero {N : Int} {ls : List (List Int)} (h : wchk N ls = 0) : ∃ n : Nat, N = n ∧ n ≤ 6 ∧ (∀ f ∈ ls, f.length = 2 ^ n) ∧ ∀ f ∈ ls, ∀ w ∈ f, 0 ≤ w ∧ w ≤ 1000 := by
  by_cases h1 : N < 0 ∨ 6 < N
  · rw [wchk, if_pos h1] at h; cases h
  obtain ⟨n, rfl⟩ : ∃ n : Nat, N = n := ⟨N.toNat, by omega⟩
  rw [wchk, if_neg h1, Int.toNat_natCast] at h
  by_cases h2 : ls.any (badLen n) = true
  · rw [if_pos h2] at h; cases h
  rw [if_neg h2] at h
  by_cases h3 : ls.any (fun f => f.any badW) = true
  · rw [if_pos h3] at h; cases h
  refine ⟨n, rfl, by omega, fun f hf => ?_, fun f hf w hw => ?_⟩
  · have := List.any_eq_false.1 (Bool.not_eq_true _ ▸ h2) f hf
    simp only [badLen, decide_eq_true_eq, Decidable.not_not] at this
    omega
  · have := List.any_eq_false.1 (Bool.not_eq_true _ ▸ h3) f hf
    have h5 := List.any_eq_false.1 (Bool.not_eq_true _ ▸ this) w hw
    simp only [badW, Bool.or_eq_true, decide_eq_true_eq] at h5
    omega

theorem risesP_false {n : Nat} {f : List Int} {s p : Nat} (hs : s < 2 ^ n) (hp : p < n) (h : f.getD (s ||| 2 ^ p) 0 < f.getD s 0) : risesP n f = false := by
  rw [risesP, List.all_eq_false]
  refine ⟨s, List.mem_range.2 hs, ?_⟩
  rw [Bool.not_eq_true, List.all_eq_false]
  exact ⟨p, List.mem_range.2 hp, by simp only [decide_eq_true h]; decide⟩
theorem risesP_true {n : Nat} {f : List Int} (h : ∀ s, s < 2 ^ n → ∀ p, p < n → ¬ f.getD (s ||| 2 ^ p) 0 < f.getD s 0) : risesP n f = true := by
  rw [risesP, List.all_eq_true]
  intro s hs
  rw [List.all_eq_true]
  intro p hp
  rw [decide_eq_false (h s (List.mem_range.1 hs) p (List.mem_range.1 hp))]
  rfl
end Go.Proofs.YtjpjmcfhhjdkpaaDoor
