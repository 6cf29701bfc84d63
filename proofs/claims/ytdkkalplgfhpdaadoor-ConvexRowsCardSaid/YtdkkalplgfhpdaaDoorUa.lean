import Derived.Test.YtdkkalplgfhpdaaDoorSc
import Derived.Test.YtdkkalplgfhpdaaDoorGa
set_option linter.unusedSimpArgs false
set_option linter.unusedVariables false
set_option linter.unusedSectionVars false
set_option maxRecDepth 20000
namespace Go.Proofs.YtdkkalplgfhpdaaDoor
attribute [local irreducible] QOp aL aC qL
/-- A right family: rising sets of n points. -/
structure Fml (n : Nat) (S : List Nat) : Prop where
  rise : S.Pairwise (· < ·)
  lt : ∀ x ∈ S, x < 2 ^ n
def accB (n : Nat) (S : List Nat) : Bool := S.contains 0 && S.all fun s => (decide (s = 0) || (List.range n).any fun p => s.testBit p && S.contains (s - 2 ^ p)) && S.all fun t => S.contains (s ||| t)
structure Ac (n : Nat) (S : List Nat) : Prop where
  lt : ∀ x ∈ S, x < 2 ^ n
  nil : 0 ∈ S
  less : ∀ s ∈ S, s ≠ 0 → ∃ p, s.testBit p = true ∧ s - 2 ^ p ∈ S
  or : ∀ s ∈ S, ∀ t ∈ S, s ||| t ∈ S
theorem accB_iff {n : Nat} {S : List Nat} (h : ∀ x ∈ S, x < 2 ^ n) : accB n S = true ↔ Ac n S := by
  unfold accB
  simp only [Bool.and_eq_true, List.contains_eq_mem, decide_eq_true_eq, List.all_eq_true, Bool.or_eq_true, List.any_eq_true, List.mem_range]
  constructor
  · rintro ⟨h1, h2⟩
    refine ⟨h, h1, fun s hs h0 => ?_, fun s hs t ht => (h2 s hs).2 t ht⟩
    rcases (h2 s hs).1 with h3 | ⟨p, _, h3⟩
    · exact (h0 h3).elim
    · exact ⟨p, h3⟩
  · intro A
    refine ⟨A.nil, fun s hs => ⟨?_, fun t ht => A.or s hs t ht⟩⟩
    by_cases h0 : s = 0
    · exact .inl h0
    · obtain ⟨p, h3⟩ := A.less s hs h0
      exact .inr ⟨p, bit_small (h s hs) h3.1, h3⟩
theorem sub_bit {s p : Nat} (h : s.testBit p = true) (i : Nat) : (s - 2 ^ p).testBit i = (s.testBit i && !decide (i = p)) := by
  have e : s - 2 ^ p = ndiff s (2 ^ p) := by
    have h1 : s = ndiff s (2 ^ p) + 2 ^ p := by
      have h2 : (ndiff s (2 ^ p)) &&& (2 ^ p) = 0 := Nat.eq_of_testBit_eq fun j => by
        rw [Nat.testBit_and, testBit_ndiff, Nat.zero_testBit]
        cases (2 ^ p).testBit j <;> simp
      have h3 : s = ndiff s (2 ^ p) ||| 2 ^ p := Nat.eq_of_testBit_eq fun j => by
        rw [Nat.testBit_or, testBit_ndiff, Nat.testBit_two_pow]
        by_cases e : p = j
        · subst e; rw [h]; simp
        · simp [e]
      have h4 := or_add_and (ndiff s (2 ^ p)) (ndiff s (2 ^ p)) (2 ^ p) Nat.lt_two_pow_self
      rw [h2, ← h3] at h4
      omega
    omega
  rw [e, testBit_ndiff, Nat.testBit_two_pow]
  congr 2
  exact decide_eq_decide.2 eq_comm
def dj (a b : Nat) : Prop := ∀ i, a.testBit i = true → b.testBit i = true → False
/-- Of two sets that may stand, of which one is not in the other one: a point more may stand. -/
theorem Ac.grow {n : Nat} {S : List Nat} (A : Ac n S) {X : Nat} (hX : X ∈ S) : ∀ (k Y : Nat), Y < k → Y ∈ S → ¬ sle Y X → ∃ y, Y.testBit y = true ∧ X.testBit y = false ∧ X ||| 2 ^ y ∈ S
  | 0, _, h, _, _ => absurd h (Nat.not_lt_zero _)
  | k + 1, Y, hk, hY, hn => by
    have h0 : Y ≠ 0 := fun e => hn fun i hi => by rw [e, Nat.zero_testBit] at hi; cases hi
    obtain ⟨p, h1, h2⟩ := A.less Y hY h0
    have hp : 0 < 2 ^ p := Nat.pow_pos (by decide)
    by_cases hs : sle (Y - 2 ^ p) X
    · have hx : X.testBit p = false := by
        cases hq : X.testBit p
        · rfl
        · refine (hn fun i hi => ?_).elim
          by_cases e : i = p
          · subst e; exact hq
          · exact hs i (by rw [sub_bit h1, hi]; simp [e])
      refine ⟨p, h1, hx, ?_⟩
      have e : X ||| 2 ^ p = X ||| Y := Nat.eq_of_testBit_eq fun i => by
        rw [Nat.testBit_or, Nat.testBit_or, Nat.testBit_two_pow]
        by_cases e : p = i
        · subst e; rw [h1]; simp
        · cases hi : Y.testBit i
          · simp [e]
          · rw [hs i (by rw [sub_bit h1, hi]; simp [Ne.symm e])]; simp
      rw [e]
      exact A.or X hX Y hY
    · obtain ⟨y, a, b, c⟩ := A.grow hX k (Y - 2 ^ p) (by omega) h2 hs
      rw [sub_bit h1, Bool.and_eq_true] at a
      exact ⟨y, a.1, b, c⟩
/-- What may stand beside a set: all together. -/
def outU (S : List Nat) (set : Nat) : Nat := S.foldr (fun s u => if set &&& s = 0 then u ||| s else u) 0
theorem and_dj {a b : Nat} : a &&& b = 0 ↔ dj a b := by
  constructor
  · intro h i h1 h2
    have : (a &&& b).testBit i = true := by rw [Nat.testBit_and, h1, h2]; rfl
    rw [h, Nat.zero_testBit] at this; cases this
  · intro h
    exact zero_of fun k hk => by
      rw [Nat.testBit_and, Bool.and_eq_true] at hk
      exact h k hk.1 hk.2
theorem outU_bit {S : List Nat} {set i : Nat} : (outU S set).testBit i = true ↔ ∃ s, s ∈ S ∧ dj set s ∧ s.testBit i = true := by
  unfold outU
  induction S with
  | nil => simp
  | cons a r ih =>
    rw [List.foldr_cons]
    split
    · rename_i h
      rw [Nat.testBit_or, Bool.or_eq_true, ih]
      constructor
      · rintro (⟨s, h1, h2⟩ | h1)
        · exact ⟨s, List.Mem.tail _ h1, h2⟩
        · exact ⟨a, List.Mem.head _, and_dj.1 h, h1⟩
      · rintro ⟨s, h1, h2, h3⟩
        rcases List.mem_cons.1 h1 with rfl | h1
        · exact .inr h3
        · exact .inl ⟨s, h1, h2, h3⟩
    · rename_i h
      rw [ih]
      constructor
      · rintro ⟨s, h1, h2⟩
        exact ⟨s, List.Mem.tail _ h1, h2⟩
      · rintro ⟨s, h1, h2, h3⟩
        rcases List.mem_cons.1 h1 with rfl | h1
        · exact (h (and_dj.2 h2)).elim
        · exact ⟨s, h1, h2, h3⟩
theorem Ac.out {n : Nat} {S : List Nat} (A : Ac n S) (set : Nat) : outU S set ∈ S := by
  have : ∀ L : List Nat, L ⊆ S → outU L set ∈ S := fun L => by
    unfold outU
    induction L with
    | nil => exact fun _ => A.nil
    | cons a r ih =>
      intro h
      have := ih fun x hx => h (List.Mem.tail _ hx)
      rw [List.foldr_cons]
      split
      · exact A.or _ this a (h (List.Mem.head _))
      · exact this
  exact this S fun _ h => h
def hulN (n : Nat) (S : List Nat) (set : Nat) : Nat := reN n (outU S set)
theorem outU_lt {n : Nat} {S : List Nat} (h : ∀ x ∈ S, x < 2 ^ n) (set : Nat) : outU S set < 2 ^ n := by
  refine Nat.lt_pow_two_of_testBit _ fun i hi => ?_
  cases hq : (outU S set).testBit i
  · rfl
  · obtain ⟨s, h1, _, h3⟩ := outU_bit.1 hq
    have := bit_small (h s h1) h3
    omega
theorem hul_bit {n : Nat} {S : List Nat} (h : ∀ x ∈ S, x < 2 ^ n) {set i : Nat} : (hulN n S set).testBit i = true ↔ i < n ∧ ∀ s, s ∈ S → dj set s → s.testBit i = false := by
  unfold hulN
  rw [reN_bit (outU_lt h set), Bool.and_eq_true, decide_eq_true_eq, Bool.not_eq_true']
  refine and_congr_right fun _ => ?_
  constructor
  · intro h1 s hs hd
    cases hq : s.testBit i
    · rfl
    · have := outU_bit.2 ⟨s, hs, hd, hq⟩
      rw [h1] at this; cases this
  · intro h1
    cases hq : (outU S set).testBit i
    · rfl
    · obtain ⟨s, h2, h3, h4⟩ := outU_bit.1 hq
      rw [h1 s h2 h3] at h4; cases h4
theorem hul_lt (n : Nat) (S : List Nat) (set : Nat) : hulN n S set < 2 ^ n := reN_lt _ _
theorem or2_bit (x p i : Nat) : (x ||| 2 ^ p).testBit i = true ↔ x.testBit i = true ∨ i = p := by
  rw [Nat.testBit_or, Nat.testBit_two_pow, Bool.or_eq_true, decide_eq_true_eq, eq_comm (a := p)]
/-- A point more in what is closed: it may be taken away again. -/
theorem Ac.key {n : Nat} {S : List Nat} (A : Ac n S) {c p : Nat} (hc : hulN n S c = c) (hp : p < n) (hcp : c.testBit p = false) : outU S (c ||| 2 ^ p) ||| 2 ^ p ∈ S := by
  have hX := A.out (c ||| 2 ^ p)
  have hY := A.out c
  have hYp : (outU S c).testBit p = true := by
    cases hq : (outU S c).testBit p
    · exfalso
      have : (hulN n S c).testBit p = true := by
        unfold hulN
        rw [reN_bit (outU_lt A.lt c), hq, decide_eq_true hp]; rfl
      rw [hc, hcp] at this; cases this
    · rfl
  have hn : ¬ sle (outU S c) (outU S (c ||| 2 ^ p)) := fun h => by
    obtain ⟨s, _, h2, h3⟩ := outU_bit.1 (h p hYp)
    exact h2 p ((or2_bit _ _ _).2 (.inr rfl)) h3
  obtain ⟨y, h1, h2, h3⟩ := A.grow hX _ _ (Nat.lt_succ_self _) hY hn
  have e : y = p := by
    by_cases e : y = p
    · exact e
    · exfalso
      have : (outU S (c ||| 2 ^ p)).testBit y = true := outU_bit.2 ⟨_, h3, fun i a b => by
        rcases (or2_bit _ _ _).1 b with b | rfl
        · obtain ⟨s, _, h5, h6⟩ := outU_bit.1 b
          exact h5 i a h6
        · rcases (or2_bit _ _ _).1 a with a | a
          · obtain ⟨s, _, h5, h6⟩ := outU_bit.1 h1
            exact h5 i a h6
          · exact e a, (or2_bit _ _ _).2 (.inr rfl)⟩
      rw [h2] at this; cases this
  subst e
  exact h3
def corP (n : Nat) (S : List Nat) (set p : Nat) : Bool := set.testBit p && !(hulN n S (set - 2 ^ p)).testBit p
def corN (n : Nat) (S : List Nat) (set : Nat) : Nat := bs (corP n S set) n
theorem cor_bit {n : Nat} {S : List Nat} {set p : Nat} (hs : set < 2 ^ n) : (corN n S set).testBit p = true ↔ set.testBit p = true ∧ (hulN n S (set - 2 ^ p)).testBit p = false := by
  unfold corN corP
  rw [bs_bit, Bool.and_eq_true, decide_eq_true_eq, Bool.and_eq_true, Bool.not_eq_true']
  exact ⟨fun h => h.2, fun h => ⟨bit_small hs h.1, h⟩⟩
end Go.Proofs.YtdkkalplgfhpdaaDoor
