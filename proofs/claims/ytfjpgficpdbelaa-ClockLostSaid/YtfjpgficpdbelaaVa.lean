import Derived.Test.YtfjpgficpdbelaaGm
import Derived.Test.YtfjpgficpdbelaaFg
import Derived.Test.YtfjpgficpdbelaaEngZu
set_option linter.unusedSimpArgs false
set_option linter.unusedVariables false
set_option linter.unusedSectionVars false
set_option maxRecDepth 20000
namespace Go.Proofs.Ytfjpgficpdbelaa
attribute [local irreducible] QOp aL aC qL
abbrev Ev : Type := Int × Int × Int
/-- The i-th event. -/
abbrev evA (l : List Ev) (i : Nat) : Ev := l.getD i (0, 0, 0)
/-- Is one of the first i events of this kind, with this message? -/
def befB (l : List Ev) (i : Nat) (k m : Int) : Bool := (l.take i).any fun y => decide (y.1 = k) && decide (y.2.2 = m)
def evO (w : Int) (x : Ev) (b1 b2 : Bool) : Int :=
  if x.1 < 1 ∨ 3 < x.1 then 7 else if x.2.1 < 0 ∨ w ≤ x.2.1 ∨ x.2.2 < 0 ∨ (x.1 = 1 ∧ x.2.2 ≠ 0) then 3 else if x.1 ≠ 1 ∧ b1 = true then 6 else if x.1 = 3 ∧ b2 = false then 5 else 0
def evE (w : Int) (l : List Ev) (i : Nat) : Int := evO w (evA l i) (befB l i (evA l i).1 (evA l i).2.2) (befB l i 2 (evA l i).2.2)
def ckT (w : Int) (l : List Ev) : Nat → Int
  | 0 => 0
  | k + 1 => if ckT w l k ≠ 0 then ckT w l k else evE w l k
/-- What is wrong with events. -/
def evck (w : Int) (l : List Ev) : Int := if w < 1 ∨ 4 < w ∨ 10 < l.length then 2 else ckT w l l.length
theorem ckT_hit {w : Int} {l : List Ev} {i : Nat} (h1 : ∀ j, j < i → evE w l j = 0) (h2 : evE w l i ≠ 0) : ∀ k, i < k → ckT w l k = evE w l i
  | 0, h => by omega
  | k + 1, h => by
    have hz : ∀ j, j ≤ i → ckT w l j = 0 := by
      intro j
      induction j with
      | zero => intro _; rfl
      | succ j ih => intro hj; rw [ckT, ih (by omega), if_neg (by decide)]; exact h1 j (by omega)
    rw [ckT]
    by_cases e : k = i
    · subst e; rw [hz k (Nat.le_refl _), if_neg (by decide)]
    · have := ckT_hit h1 h2 k (by omega)
      rw [this, if_pos h2]
theorem ckT_zero {w : Int} {l : List Ev} : ∀ {k}, (∀ j, j < k → evE w l j = 0) → ckT w l k = 0
  | 0, _ => rfl
  | k + 1, h => by rw [ckT, ckT_zero fun j hj => h j (by omega), if_neg (by decide)]; exact h k (by omega)
theorem ckT_inv {w : Int} {l : List Ev} : ∀ {k}, ckT w l k = 0 → ∀ j, j < k → evE w l j = 0
  | 0, _, j, h => by omega
  | k + 1, h, j, hj => by
    rw [ckT] at h
    by_cases h1 : ckT w l k = 0
    · rw [if_neg (by omega)] at h
      by_cases e : j = k
      · subst e; exact h
      · exact ckT_inv h1 j (by omega)
    · rw [if_pos h1] at h; exact absurd h h1
/-- Right events. -/
structure EvP (w : Nat) (l : List Ev) : Prop where
  w1 : 1 ≤ w
  w4 : w ≤ 4
  len : l.length ≤ 10
  ok : ∀ j, j < l.length → evE w l j = 0
theorem evck_zero {w : Int} {l : List Ev} (h : evck w l = 0) : ∃ W : Nat, w = W ∧ EvP W l := by
  unfold evck at h
  by_cases h1 : w < 1 ∨ 4 < w ∨ 10 < l.length
  · rw [if_pos h1] at h; cases h
  · rw [if_neg h1] at h
    refine ⟨w.toNat, by omega, by omega, by omega, by omega, fun j hj => ?_⟩
    rw [show ((w.toNat : Nat) : Int) = w by omega]
    exact ckT_inv h j hj
theorem EvP.ck {w : Nat} {l : List Ev} (h : EvP w l) : evck w l = 0 := by
  unfold evck
  have h1 := h.w1
  have h2 := h.w4
  have h3 := h.len
  rw [if_neg (by omega)]
  exact ckT_zero h.ok
theorem EvP.wk {w : Nat} {l : List Ev} (h : EvP w l) {j : Nat} (hj : j < l.length) : 0 ≤ (evA l j).2.1 ∧ (evA l j).2.1 < w ∧ 1 ≤ (evA l j).1 ∧ (evA l j).1 ≤ 3 ∧ 0 ≤ (evA l j).2.2 := by
  have := h.ok j hj
  unfold evE evO at this
  split at this
  · cases this
  split at this
  · cases this
  omega
/-- Is the k-th event right ahead of the i-th one, of those behind it? -/
def ahB (l : List Ev) (k i : Nat) : Bool := decide ((evA l i).2.1 = (evA l k).2.1) || (decide ((evA l i).1 = 3) && decide ((evA l k).1 = 2) && decide ((evA l i).2.2 = (evA l k).2.2))
def ahRow (l : List Ev) (i k : Nat) : List (Nat × Nat) := ((List.range k).filter fun j => ahB l j i).map fun j => (j, i)
def ahTo (l : List Ev) (i : Nat) : List (Nat × Nat) := (List.range i).flatMap fun i => ahRow l i i
theorem ahRow_succ (l : List Ev) (i k : Nat) : ahRow l i (k + 1) = if ahB l k i = true then ahRow l i k ++ [(k, i)] else ahRow l i k := by
  unfold ahRow
  rw [List.range_succ, List.filter_append, List.map_append]
  by_cases h : ahB l k i = true <;> simp [List.filter, h]
theorem ahTo_succ (l : List Ev) (i : Nat) : ahTo l (i + 1) = ahTo l i ++ ahRow l i i := by
  unfold ahTo
  rw [List.range_succ, List.flatMap_append]
  simp
theorem ahRow_len (l : List Ev) (i k : Nat) : (ahRow l i k).length ≤ k := by
  have := List.length_filter_le (fun j => ahB l j i) (List.range k)
  rw [List.length_range] at this
  simpa [ahRow] using this
theorem ahTo_len (l : List Ev) : ∀ i, (ahTo l i).length ≤ i * i
  | 0 => by simp [ahTo]
  | i + 1 => by
    have h1 := ahTo_len l i
    have h2 := ahRow_len l i i
    have h3 : (i + 1) * (i + 1) = i * i + i + i + 1 := by rw [Nat.add_mul, Nat.mul_add]; omega
    rw [ahTo_succ, List.length_append]
    omega
theorem ah_mem {l : List Ev} {n : Nat} {p : Nat × Nat} : p ∈ ahTo l n ↔ p.2 < n ∧ p.1 < p.2 ∧ ahB l p.1 p.2 = true := by
  unfold ahTo ahRow
  simp only [List.mem_flatMap, List.mem_range, List.mem_map, List.mem_filter]
  constructor
  · rintro ⟨i, hi, k, ⟨hk, hf⟩, rfl⟩; exact ⟨hi, hk, hf⟩
  · rintro ⟨h1, h2, h3⟩; exact ⟨p.2, h1, p.1, ⟨h2, h3⟩, rfl⟩
theorem ah_lt {l : List Ev} {n : Nat} : ∀ p ∈ ahTo l n, p.1 < n ∧ p.2 < n := fun p hp => by
  obtain ⟨h1, h2, _⟩ := ah_mem.1 hp
  exact ⟨by omega, h1⟩
theorem ah_rise {l : List Ev} {n a b : Nat} (h : Reach (ahTo l n) a b) : a < b := by
  induction h with
  | one h => exact (ah_mem.1 h).2.1
  | more _ h ih => have := (ah_mem.1 h).2.1; exact Nat.lt_trans ih this
theorem toN_pn (L : List (Nat × Nat)) : toN (pn L) = L := by
  unfold toN pn
  rw [List.map_map]
  conv => rhs; rw [← List.map_id L]
  refine List.map_congr_left fun p _ => ?_
  simp
theorem ah_mkE {l : List Ev} (h : l.length ≤ 10) : mkE l.length (pn (ahTo l l.length)) = 0 := by
  unfold mkE
  rw [if_neg (by omega), if_neg, if_pos]
  · rw [Int.toNat_natCast, toN_pn, irr_iff ah_lt]
    intro q _ hr
    have := ah_rise hr
    omega
  · rw [Bool.not_eq_false, List.all_eq_true]
    intro p hp
    unfold pn at hp
    obtain ⟨q, hq, rfl⟩ := List.mem_map.1 hp
    have := ah_lt q hq
    simp only [okP, decide_eq_true_eq]
    omega
end Go.Proofs.Ytfjpgficpdbelaa
