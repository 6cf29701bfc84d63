import Derived.Test.YtdbngpkbamhbeaaZa
import Derived.Test.YtdbngpkbamhbeaaXl
set_option linter.unusedSimpArgs false
set_option linter.unusedVariables false
set_option linter.unusedSectionVars false
set_option maxRecDepth 20000
namespace Go.Proofs.Ytdbngpkbamhbeaa
attribute [local irreducible] QOp aL aC qL
/-- A set that is not closed, but is as far as the rules of smaller ones go. -/
def skO (cl : Nat → Nat) (T : List Nat) (s : Nat) : Bool := decide (cl s ≠ s) && T.all fun t => !sub t s || sub (cl t) s
def skT (cl : Nat → Nat) : Nat → List Nat
  | 0 => []
  | k + 1 => if skO cl (skT cl k) k = true then skT cl k ++ [k] else skT cl k
def skw (cl : Nat → Nat) (s : Nat) : Bool := skO cl (skT cl s) s
theorem skT_eq (cl : Nat → Nat) : ∀ k, skT cl k = (List.range k).filter (skw cl)
  | 0 => rfl
  | k + 1 => by
    rw [List.range_succ, List.filter_append, ← skT_eq cl k, skT]
    by_cases h : skO cl (skT cl k) k = true
    · rw [if_pos h]
      congr 1
      exact (List.filter_cons_of_pos (p := skw cl) (l := []) h).symm
    · rw [if_neg h, List.filter_cons_of_neg (p := skw cl) h]
      simp
theorem skT_mem {cl : Nat → Nat} {k t : Nat} : t ∈ skT cl k ↔ t < k ∧ skw cl t = true := by
  rw [skT_eq, List.mem_filter, List.mem_range]
theorem skO_iff {cl : Nat → Nat} {T : List Nat} {s : Nat} : skO cl T s = true ↔ cl s ≠ s ∧ ∀ t ∈ T, sub t s = true → sub (cl t) s = true := by
  unfold skO
  rw [Bool.and_eq_true, decide_eq_true_eq, List.all_eq_true]
  refine and_congr Iff.rfl ⟨fun h t ht hs => ?_, fun h t ht => ?_⟩
  · have := h t ht
    rw [hs] at this
    simpa using this
  · by_cases hs : sub t s = true
    · rw [hs, h t ht hs]; rfl
    · rw [Bool.not_eq_true] at hs
      rw [hs]; rfl
/-! Fewer marks. -/
theorem pc_mono {t s : Nat} (h : sub t s = true) : ∀ k, pcTo t k ≤ pcTo s k
  | 0 => Nat.le_refl _
  | k + 1 => by
    have ih := pc_mono h k
    rw [pcTo, pcTo]
    have h1 := sub_iff.1 h k
    rw [Nat.testBit_eq_decide_div_mod_eq, Nat.testBit_eq_decide_div_mod_eq, decide_eq_true_eq, decide_eq_true_eq] at h1
    omega
theorem pc_less {t s : Nat} (h : sub t s = true) {i : Nat} (hi : s.testBit i = true) (hn : t.testBit i = false) : ∀ k, i < k → pcTo t k < pcTo s k
  | 0, hk => absurd hk (Nat.not_lt_zero _)
  | k + 1, hk => by
    rw [pcTo, pcTo]
    by_cases e : i = k
    · subst e
      have ih := pc_mono h i
      rw [Nat.testBit_eq_decide_div_mod_eq] at hi hn
      rw [decide_eq_true_eq] at hi
      rw [decide_eq_false_iff_not] at hn
      omega
    · have ih := pc_less h hi hn k (by omega)
      have h1 := sub_iff.1 h k
      rw [Nat.testBit_eq_decide_div_mod_eq, Nat.testBit_eq_decide_div_mod_eq, decide_eq_true_eq, decide_eq_true_eq] at h1
      omega
theorem pc_proper {t s : Nat} (h : sub t s = true) (hne : t ≠ s) (hs : s < 1024) : pcTo t 10 < pcTo s 10 := by
  obtain ⟨i, hi⟩ : ∃ i, s.testBit i ≠ t.testBit i := by
    refine Classical.byContradiction fun hc => hne ?_
    refine Nat.eq_of_testBit_eq fun i => ?_
    refine Classical.byContradiction fun hq => hc ⟨i, fun e => hq e.symm⟩
  have h1 : s.testBit i = true := by
    cases hsi : s.testBit i with
    | true => rfl
    | false =>
      cases hti : t.testBit i with
      | true => have := sub_iff.1 h i hti; rw [hsi] at this; cases this
      | false => exact absurd (hsi.trans hti.symm) hi
  have h2 : t.testBit i = false := by
    cases hti : t.testBit i with
    | false => rfl
    | true => exact absurd (h1.trans hti.symm) hi
  refine pc_less h h1 h2 10 ?_
  refine Nat.lt_of_not_le fun hle => ?_
  have h3 := Nat.ge_two_pow_of_testBit h1
  have h4 : 2 ^ 10 ≤ 2 ^ i := Nat.pow_le_pow_right (by decide) hle
  omega
/-- What the library has found so far. -/
def bsO (cl : Nat → Nat) (P : List Nat) (k : Nat) : List Nat := (P.take k).filter (skw cl)
theorem bsO_succ {cl : Nat → Nat} {P : List Nat} {k : Nat} (h : k < P.length) : bsO cl P (k + 1) = if skw cl (P.getD k 0) = true then bsO cl P k ++ [P.getD k 0] else bsO cl P k := by
  unfold bsO
  have e : P.take (k + 1) = P.take k ++ [P.getD k 0] := by
    rw [List.take_add_one, List.getD_eq_getElem?_getD, List.getElem?_eq_getElem h]; rfl
  rw [e, List.filter_append]
  by_cases hq : skw cl (P.getD k 0) = true
  · rw [if_pos hq, List.filter_cons_of_pos hq]; rfl
  · rw [if_neg hq, List.filter_cons_of_neg hq]; simp
theorem bsO_step {cl : Nat → Nat} {N : Nat} {P : List Nat} (hN : N ≤ 1024) (hp : P.Perm (List.range N)) (hs : Srt (fun x => pcTo x 10) 0 P.length P) {k : Nat} (hk : k < P.length) : skO cl (bsO cl P k) (P.getD k 0) = skw cl (P.getD k 0) := by
  have hnd : P.Nodup := hp.nodup_iff.2 List.nodup_range
  have hget : ∀ j, j < P.length → ∃ h : j < P.length, P.getD j 0 = P[j] := fun j h => ⟨h, by rw [List.getD_eq_getElem?_getD, List.getElem?_eq_getElem h]; rfl⟩
  have hlt : ∀ j, j < P.length → P.getD j 0 < N := fun j h => by
    obtain ⟨_, e⟩ := hget j h
    rw [e]
    exact List.mem_range.1 (hp.mem_iff.1 (List.getElem_mem _))
  have hinj : ∀ i j, i < P.length → j < P.length → P.getD i 0 = P.getD j 0 → i = j := fun i j hi hj e => by
    obtain ⟨_, e1⟩ := hget i hi
    obtain ⟨_, e2⟩ := hget j hj
    rw [e1, e2] at e
    exact (List.getElem_inj hnd).1 e
  rw [Bool.eq_iff_iff]
  unfold skw
  rw [skO_iff, skO_iff]
  refine and_congr Iff.rfl ⟨fun h t ht hsb => ?_, fun h t ht hsb => ?_⟩
  · obtain ⟨h1, h2⟩ := skT_mem.1 ht
    have h3 : t ∈ P := hp.mem_iff.2 (List.mem_range.2 (Nat.lt_trans h1 (hlt k hk)))
    obtain ⟨j, hj, e⟩ := List.getElem_of_mem h3
    obtain ⟨_, ej⟩ := hget j hj
    rw [e] at ej
    refine h t ?_ hsb
    refine List.mem_filter.2 ⟨?_, h2⟩
    have hjk : j < k := by
      refine Nat.lt_of_not_le fun hle => ?_
      have h4 := hs k j (Nat.zero_le _) hle hj
      have h5 := pc_proper hsb (by omega) (by have := hlt k hk; omega)
      rw [ej] at h4
      exact absurd h5 (Nat.not_lt.2 h4)
    rw [← e]
    exact List.mem_take_iff_getElem.2 ⟨j, by omega, rfl⟩
  · obtain ⟨h1, h2⟩ := List.mem_filter.1 ht
    obtain ⟨j, hj, e⟩ := List.mem_take_iff_getElem.1 h1
    obtain ⟨_, ej⟩ := hget j (by omega)
    rw [e] at ej
    refine h t (skT_mem.2 ⟨?_, h2⟩) hsb
    have h3 := sub_le hsb
    have h4 : t ≠ P.getD k 0 := fun hq => by
      have := hinj j k (by omega) hk (by rw [ej]; exact hq)
      omega
    omega
/-- All found, and sorted. -/
theorem bsO_all {cl : Nat → Nat} {N : Nat} {P : List Nat} (hp : P.Perm (List.range N)) : (bsO cl P P.length).Perm (skT cl N) := by
  unfold bsO
  rw [List.take_length, skT_eq]
  exact hp.filter _
end Go.Proofs.Ytdbngpkbamhbeaa
