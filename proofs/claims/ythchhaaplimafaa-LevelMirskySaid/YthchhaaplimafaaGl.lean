/- Ideals of the order turned over (plain). -/
import Derived.Test.YthchhaaplimafaaGf
set_option linter.unusedSimpArgs false
set_option linter.unusedVariables false
namespace Go.Proofs.Ythchhaaplimafaa
attribute [local irreducible] QOp aL aC qL
theorem idl_iff {n : Nat} {ns : List Nat} {s : Nat} : idl n ns s = true ↔ ∀ b, b < n → s.testBit b = true → ∀ a, (ns.getD b 0).testBit a = true → s.testBit a = true := by
  unfold idl
  simp only [List.all_eq_true, List.mem_range, Bool.or_eq_true, Bool.not_eq_true', sub_iff]
  constructor
  · intro h b hb hs
    rcases h b hb with h1 | h1
    · rw [hs] at h1; cases h1
    · exact h1
  · intro h b hb
    cases hs : s.testBit b
    · exact .inl rfl
    · exact .inr (h b hb hs)
theorem filter_flip (p : Nat → Bool) : ∀ N : Nat, (List.range N).filter (fun s => p (N - 1 - s)) = (((List.range N).filter p).map fun s => N - 1 - s).reverse := by
  intro N
  have e : List.range N = ((List.range N).map fun s => N - 1 - s).reverse := by
    apply List.ext_getElem
    · simp
    · intro i h1 h2
      simp at h1 h2 ⊢
      omega
  have e2 : (List.range N).filter (fun s => p (N - 1 - s)) = (((List.range N).map fun s => N - 1 - s).reverse).filter (fun s => p (N - 1 - s)) := by rw [← e]
  rw [e2, List.filter_reverse, List.filter_map]
  congr 2
  apply List.filter_congr
  intro x hx
  have := List.mem_range.1 hx
  simp only [Function.comp]
  congr 1
  omega
theorem idl_dual {n : Nat} {ns : List Nat} (hv : Vld n ns) {s : Nat} (hs : s < 2 ^ n) : idl n (ofn n (dualP ns)) s = idl n ns (2 ^ n - 1 - s) := by
  have hbit : ∀ i, (2 ^ n - 1 - s).testBit i = (decide (i < n) && !s.testBit i) := fun i => by
    rw [Nat.sub_sub, Nat.add_comm]; exact Nat.testBit_two_pow_sub_succ hs i
  have hin : ∀ i, s.testBit i = true → i < n := fun i hi => by
    rcases Nat.lt_or_ge i n with h | h
    · exact h
    · rw [Nat.testBit_lt_two_pow (Nat.lt_of_lt_of_le hs (Nat.pow_le_pow_right (by decide) h))] at hi; cases hi
  have hin2 : ∀ (m : List Nat), Vld n m → ∀ b a, (m.getD b 0).testBit a = true → a < n := fun m hm b a ha => by
    rcases Nat.lt_or_ge a n with h | h
    · exact h
    · rw [Nat.testBit_lt_two_pow (Nat.lt_of_lt_of_le (hm.get b) (Nat.pow_le_pow_right (by decide) h))] at ha; cases ha
  have hd : ∀ a b, a < n → b < n → ((ofn n (dualP ns)).getD b 0).testBit a = (ns.getD a 0).testBit b := fun a b ha hb => ofn_lt (dualP ns) ha hb
  rw [Bool.eq_iff_iff, idl_iff, idl_iff]
  constructor
  · intro h b hb hsb a ha
    have han := hin2 ns hv b a ha
    rw [hbit] at hsb ⊢
    simp only [hb, han, decide_true, Bool.true_and, Bool.not_eq_true'] at hsb ⊢
    cases hsa : s.testBit a
    · rfl
    · have := h a han hsa b (by rw [hd b a hb han]; exact ha)
      rw [hsb] at this; cases this
  · intro h b hb hsb a ha
    have han := hin2 _ (ofn_vld n (dualP ns)) b a ha
    rw [hd a b han hb] at ha
    cases hsa : s.testBit a
    · have := h a han (by rw [hbit]; simp [han, hsa]) b ha
      rw [hbit] at this; simp [hsb] at this
    · rfl
/-- The ideals of the dual: the complements, the other way round. -/
theorem idTo_dual {n : Nat} {ns : List Nat} (hv : Vld n ns) : idTo n (ofn n (dualP ns)) (2 ^ n) = ((idTo n ns (2 ^ n)).map fun s => 2 ^ n - 1 - s).reverse := by
  unfold idTo
  rw [← filter_flip]
  exact List.filter_congr fun s hs => idl_dual hv (List.mem_range.1 hs)
theorem dual_lt {n : Nat} {ns : List Nat} {a b : Nat} (ha : a < n) (hb : b < n) : lt (ofn n (dualP ns)) a b = lt ns b a := ofn_lt (dualP ns) ha hb
theorem okB_dual {n : Nat} {ns : List Nat} (hok : okB n ns = true) : okB n (ofn n (dualP ns)) = true := by
  refine okB_all (ofn_vld n _).2 fun i hi => ⟨fun j hj k hk => ?_, ?_⟩
  · cases ht : trip (ofn n (dualP ns)) i j k
    · rfl
    · simp only [trip, Bool.and_eq_true, Bool.not_eq_true'] at ht
      obtain ⟨h1, h2, h3⟩ := ht
      rw [dual_lt (by assumption) (by assumption)] at h1 h2 h3
      have : trip ns j i k = true := by simp only [trip, h1, h2, h3]; rfl
      have := okB_trip hj hk this
      rw [hok] at this; cases this
  · rw [dual_lt hi hi]; exact okB_irr hok hi
theorem dual_dual {n : Nat} {ns : List Nat} (hv : Vld n ns) : ofn n (dualP (ofn n (dualP ns))) = ns :=
  vld_ext (ofn_vld n _) hv fun a b ha hb => by rw [dual_lt ha hb, dual_lt hb ha]
end Go.Proofs.Ythchhaaplimafaa
