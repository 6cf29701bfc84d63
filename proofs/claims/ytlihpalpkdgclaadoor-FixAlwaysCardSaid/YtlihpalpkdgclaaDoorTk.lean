import Derived.Test.YtlihpalpkdgclaaDoorTh
import Derived.Test.YtlihpalpkdgclaaDoorTc
set_option linter.unusedSimpArgs false
set_option linter.unusedVariables false
set_option linter.unusedSectionVars false
set_option maxRecDepth 20000
namespace Go.Proofs.YtlihpalpkdgclaaDoor
attribute [local irreducible] QOp aL aC qL
/-- How many maps that begin so, with k more numbers below m, are of a kind. -/
def mfC (P : List Nat → Bool) (m : Nat) (f : List Nat) (k : Nat) : Nat := cqN (fun j => P (f ++ dgt k m j)) (m ^ k)
theorem dgt_succ (k m j : Nat) : dgt (k + 1) m j = j % m :: dgt k m (j / m) := by
  unfold dgt
  rw [List.range_succ_eq_map, List.map_cons, List.map_map, Nat.pow_zero, Nat.div_one]
  refine congrArg _ (List.map_congr_left fun i _ => ?_)
  show j / m ^ (i + 1) % m = j / m / m ^ i % m
  rw [Nat.pow_succ, Nat.mul_comm, ← Nat.div_div_eq_div_mul]
theorem mfC_zero (P : List Nat → Bool) (m : Nat) (f : List Nat) : mfC P m f 0 = if P f = true then 1 else 0 := by
  unfold mfC
  have : f ++ dgt 0 m 0 = f := by simp [dgt]
  rw [Nat.pow_zero]
  show (if P (f ++ dgt 0 m 0) = true then 0 + 1 else 0) = _
  rw [this]
theorem mfC_succ (P : List Nat → Bool) (m : Nat) (f : List Nat) (k : Nat) : mfC P m f (k + 1) = sqN (fun x => mfC P m (f ++ [x]) k) m := by
  rcases Nat.eq_zero_or_pos m with rfl | hm
  · unfold mfC
    rw [Nat.pow_succ, Nat.mul_zero]; rfl
  have := cqN_mul (fun x j => P (f ++ [x] ++ dgt k m j)) hm (m ^ k)
  unfold mfC
  rw [Nat.pow_succ, ← this]
  refine cqN_ext fun j _ => ?_
  rw [dgt_succ, List.append_assoc]; rfl
theorem mfC_le (P : List Nat → Bool) (m : Nat) (f : List Nat) (k : Nat) : mfC P m f k ≤ m ^ k := cqN_le _ _
theorem mps_mfC (n : Nat) (ns : List Nat) (m : Nat) (ms : List Nat) : (mpsK n ns m ms (m ^ n)).length = mfC (monB n ns ms) m [] n := by
  unfold mpsK mfC
  rw [List.filter_map, List.length_map, cqN_len]
  rfl
/-- Nobody stays where he is. -/
def nfB (n : Nat) (F : List Nat) : Bool := (List.range n).all fun i => !fxP F i
theorem nfB_iff {n : Nat} {F : List Nat} : nfB n F = true ↔ ∀ i, i < n → F.getD i 0 ≠ i := by
  unfold nfB fxP
  rw [List.all_eq_true]
  constructor
  · intro h i hi
    have := h i (List.mem_range.2 hi)
    simpa using this
  · intro h i hi
    simpa using h i (List.mem_range.1 hi)
theorem fxK_bit {n : Nat} {F : List Nat} {i : Nat} (hi : i < n) : (fxK n F).testBit i = decide (F.getD i 0 = i) := by
  unfold fxK
  rw [bs_bit, decide_eq_true hi, Bool.true_and]
  rfl
theorem fxK_zero {n : Nat} {F : List Nat} : fxK n F = 0 ↔ nfB n F = true := by
  rw [nfB_iff]
  constructor
  · intro h i hi he
    have := fxK_bit (F := F) hi
    rw [h, Nat.zero_testBit, decide_eq_true he] at this
    cases this
  · intro h
    refine Nat.eq_of_testBit_eq fun i => ?_
    rw [Nat.zero_testBit]
    unfold fxK
    rw [bs_bit]
    by_cases hi : i < n
    · have : fxP F i = false := decide_eq_false (h i hi)
      rw [this, Bool.and_false]
    · rw [decide_eq_false hi, Bool.false_and]
theorem always_mfC (n : Nat) (ns : List Nat) : ((mpsK n ns n ns (n ^ n)).all fun F => decide (fxK n F ≠ 0)) = decide (mfC (fun F => monB n ns ns F && nfB n F) n [] n = 0) := by
  rw [Bool.eq_iff_iff, List.all_eq_true, decide_eq_true_eq]
  unfold mfC mpsK
  rw [cqN_zero]
  constructor
  · intro h i hi
    rw [List.nil_append]
    show (monB n ns ns (dgt n n i) && nfB n (dgt n n i)) = false
    cases h1 : monB n ns ns (dgt n n i)
    · rfl
    rw [Bool.true_and]
    have := h (dgt n n i) (List.mem_filter.2 ⟨List.mem_map.2 ⟨i, List.mem_range.2 hi, rfl⟩, h1⟩)
    rw [decide_eq_true_eq] at this
    cases h2 : nfB n (dgt n n i)
    · rfl
    · exact absurd (fxK_zero.2 h2) this
  · intro h F hF
    obtain ⟨h1, h2⟩ := List.mem_filter.1 hF
    obtain ⟨i, hi, rfl⟩ := List.mem_map.1 h1
    have := h i (List.mem_range.1 hi)
    rw [List.nil_append] at this
    change (monB n ns ns (dgt n n i) && nfB n (dgt n n i)) = false at this
    rw [h2, Bool.true_and] at this
    rw [decide_eq_true_eq]
    intro h3
    rw [fxK_zero.1 h3] at this
    cases this
end Go.Proofs.YtlihpalpkdgclaaDoor
