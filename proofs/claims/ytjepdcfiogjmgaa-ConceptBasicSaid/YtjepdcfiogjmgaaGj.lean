import Derived.Test.YtjepdcfiogjmgaaFy
set_option linter.unusedSimpArgs false
set_option linter.unusedVariables false
set_option maxRecDepth 20000
namespace Go.Proofs.Ytjepdcfiogjmgaa
attribute [local irreducible] QOp aL aC qL
/-- Of n things the one that a number speaks of. -/
def chooseN (c : Int) (n : Nat) : Nat := (if c < 0 then -(c + 1) else c).toNat % n
/-! What things and marks say of each other. -/
theorem marks_bit {t m : Nat} {ns : List Nat} (hc : Ctx t m ns) (s j : Nat) : (marksN m ns s).testBit j = true ↔ j < m ∧ ∀ i, i < t → s.testBit i = true → (ns.getD i 0).testBit j = true := by
  unfold marksN
  rw [marksTo_bit, hc.len]
  simp only [Bool.and_eq_true, decide_eq_true_eq, List.all_eq_true, List.mem_range, Bool.or_eq_true, Bool.not_eq_true']
  constructor
  · rintro ⟨h1, h2⟩
    refine ⟨h1, fun i hi hs => ?_⟩
    rcases h2 i hi with h3 | h3
    · rw [hs] at h3; cases h3
    · exact h3
  · rintro ⟨h1, h2⟩
    refine ⟨h1, fun i hi => ?_⟩
    cases hs : s.testBit i
    · exact .inl rfl
    · exact .inr (h2 i hi hs)
theorem things_bit {t m : Nat} {ns : List Nat} (hc : Ctx t m ns) (q i : Nat) : (thingsN ns q).testBit i = true ↔ i < t ∧ ∀ j, q.testBit j = true → (ns.getD i 0).testBit j = true := by
  unfold thingsN
  rw [thingsTo_bit, hc.len]
  simp only [Bool.and_eq_true, decide_eq_true_eq, sub_iff]
theorem gal_up {t m : Nat} {ns : List Nat} (hc : Ctx t m ns) {s : Nat} (hs : s < 2 ^ t) : sub s (thingsN ns (marksN m ns s)) = true := by
  rw [sub_iff]
  intro i hi
  have hit : i < t := by
    rcases Nat.lt_or_ge i t with h | h
    · exact h
    · rw [Nat.testBit_lt_two_pow (Nat.lt_of_lt_of_le hs (Nat.pow_le_pow_right (by decide) h))] at hi; cases hi
  exact (things_bit hc _ i).2 ⟨hit, fun j hj => ((marks_bit hc s j).1 hj).2 i hit hi⟩
theorem gal_idem {t m : Nat} {ns : List Nat} (hc : Ctx t m ns) {s : Nat} (hs : s < 2 ^ t) : marksN m ns (thingsN ns (marksN m ns s)) = marksN m ns s := by
  apply Nat.eq_of_testBit_eq
  intro j
  rw [Bool.eq_iff_iff]
  constructor
  · intro h
    obtain ⟨h1, h2⟩ := (marks_bit hc _ j).1 h
    exact (marks_bit hc s j).2 ⟨h1, fun i hi hsi => h2 i hi (sub_iff.1 (gal_up hc hs) i hsi)⟩
  · intro h
    refine (marks_bit hc _ j).2 ⟨((marks_bit hc s j).1 h).1, fun i hi hti => ((things_bit hc _ i).1 hti).2 j h⟩
theorem marks_anti {t m : Nat} {ns : List Nat} (hc : Ctx t m ns) {a b : Nat} (h : sub a b = true) : sub (marksN m ns b) (marksN m ns a) = true := by
  rw [sub_iff]
  intro j hj
  obtain ⟨h1, h2⟩ := (marks_bit hc b j).1 hj
  exact (marks_bit hc a j).2 ⟨h1, fun i hi ha => h2 i hi (sub_iff.1 h i ha)⟩
theorem marks_or {t m : Nat} {ns : List Nat} (hc : Ctx t m ns) (a b : Nat) : marksN m ns (a ||| b) = marksN m ns a &&& marksN m ns b := by
  apply Nat.eq_of_testBit_eq
  intro j
  rw [Nat.testBit_and, Bool.eq_iff_iff, Bool.and_eq_true, marks_bit hc, marks_bit hc, marks_bit hc]
  constructor
  · rintro ⟨h1, h2⟩
    exact ⟨⟨h1, fun i hi ha => h2 i hi (by rw [Nat.testBit_or, ha, Bool.true_or])⟩, ⟨h1, fun i hi hb => h2 i hi (by rw [Nat.testBit_or, hb, Bool.or_true])⟩⟩
  · rintro ⟨⟨h1, h2⟩, ⟨_, h3⟩⟩
    refine ⟨h1, fun i hi hab => ?_⟩
    rw [Nat.testBit_or, Bool.or_eq_true] at hab
    exact hab.elim (h2 i hi) (h3 i hi)
end Go.Proofs.Ytjepdcfiogjmgaa
