import Derived.Test.YtkackilhfkicoaaDoorHr
import Derived.Test.YtkackilhfkicoaaDoorFo
import Derived.Test.YtkackilhfkicoaaDoorEngZp
set_option linter.unusedSimpArgs false
set_option linter.unusedVariables false
set_option linter.unusedSectionVars false
set_option maxRecDepth 20000
namespace Go.Proofs.YtkackilhfkicoaaDoor
/-- Sets of n points, rising, of which the first has none of them and the last has all. -/
structure Fam (n : Nat) (S : List Nat) : Prop where
  pos : 0 < S.length
  rise : ∀ i j, i < j → j < S.length → S.getD i 0 < S.getD j 0
  low : S.getD 0 0 = 0
  lt : ∀ i, i < S.length → S.getD i 0 < 2 ^ n
  all : S.getD (S.length - 1) 0 = 2 ^ n - 1
theorem Fam.inj {n : Nat} {S : List Nat} (h : Fam n S) {i j : Nat} (hi : i < S.length) (hj : j < S.length) (e : S.getD i 0 = S.getD j 0) : i = j := by
  rcases Nat.lt_trichotomy i j with q | q | q
  · have := h.rise i j q hj; omega
  · exact q
  · have := h.rise j i q hi; omega
/-- May one stand ahead of the other one? -/
def ftB (S : List Nat) (p : Nat → Nat → Bool) (i j : Nat) : Bool := sub (S.getD i 0) (S.getD j 0) && p (S.getD i 0) (S.getD j 0)
/-- Lists of k + 1 sets, from the first on, that end at the j-th. -/
def wI (S : List Nat) (p : Nat → Nat → Bool) : Nat → Nat → Nat
  | 0, j => if j = 0 then 1 else 0
  | k + 1, j => sumTo (fun i => if ftB S p i j = true then wI S p k i else 0) S.length
theorem wI_s (S : List Nat) (p : Nat → Nat → Bool) (k j : Nat) : wI S p (k + 1) j = sumTo (fun i => if ftB S p i j = true then wI S p k i else 0) S.length := rfl
/-! How many there are at most. -/
def subN (n s t : Nat) : Bool := (List.range n).all fun i => !s.testBit i || t.testBit i
theorem subN_iff {n s t : Nat} : subN n s t = true ↔ ∀ i, i < n → s.testBit i = true → t.testBit i = true := by
  unfold subN
  rw [List.all_eq_true]
  constructor
  · intro h i hi h1
    have := h i (List.mem_range.2 hi)
    rw [h1] at this; simpa using this
  · intro h i hi
    cases h1 : s.testBit i
    · rfl
    · rw [h i (List.mem_range.1 hi) h1]; rfl
theorem pc_bit (x k : Nat) : pcTo x (k + 1) = pcTo x k + if x.testBit k = true then 1 else 0 := by
  rw [pc_cn, pc_cn, cn_s]
theorem testBit_hi {n s i : Nat} (hs : s < 2 ^ n) (hi : i ≤ n) : (2 ^ n + s).testBit i = if i = n then true else s.testBit i := by
  by_cases e : i = n
  · subst e
    rw [if_pos rfl, Nat.testBit_eq_decide_div_mod_eq, Nat.add_div_left _ (Nat.pow_pos (by decide)), Nat.div_eq_of_lt hs]
    rfl
  · rw [if_neg e, Nat.testBit_two_pow_add_gt (by omega)]
theorem sumTo_addR (f : Nat → Nat) (m : Nat) : ∀ k, sumTo f (m + k) = sumTo f m + sumTo (fun i => f (m + i)) k
  | 0 => rfl
  | k + 1 => by
    show sumTo f (m + k) + f (m + k) = sumTo f m + (sumTo (fun i => f (m + i)) k + f (m + k))
    rw [sumTo_addR f m k]; omega
theorem sumTo_upW {f : Nat → Nat} : ∀ {m k : Nat}, k ≤ m → sumTo f k ≤ sumTo f m
  | 0, k, h => by rw [Nat.le_zero.1 h]; exact Nat.le_refl _
  | m + 1, k, h => by
    by_cases e : k = m + 1
    · rw [e]; exact Nat.le_refl _
    · exact Nat.le_trans (sumTo_upW (m := m) (by omega)) (Nat.le_add_right _ _)
theorem pow_subs (c t : Nat) : ∀ n, sumTo (fun s => if subN n s t = true then c ^ pcTo s n else 0) (2 ^ n) = (c + 1) ^ pcTo t n
  | 0 => by
    show sumTo _ 1 = 1
    rfl
  | n + 1 => by
    have ih := pow_subs c t n
    rw [Nat.pow_succ, Nat.mul_two, sumTo_addR]
    have e1 : sumTo (fun s => if subN (n + 1) s t = true then c ^ pcTo s (n + 1) else 0) (2 ^ n) = (c + 1) ^ pcTo t n := by
      rw [← ih]
      refine sumTo_congr fun s hs => ?_
      have hb : s.testBit n = false := Nat.testBit_lt_two_pow hs
      have e2 : subN (n + 1) s t = subN n s t := by
        rw [Bool.eq_iff_iff, subN_iff, subN_iff]
        refine ⟨fun h i hi => h i (by omega), fun h i hi h1 => ?_⟩
        by_cases e : i = n
        · subst e; rw [hb] at h1; cases h1
        · exact h i (by omega) h1
      rw [e2, pc_bit, hb]
      rfl
    rw [e1, pc_bit]
    have hpc : ∀ s, s < 2 ^ n → pcTo (2 ^ n + s) (n + 1) = pcTo s n + 1 := fun s hs => by
      rw [pc_bit, testBit_hi hs (Nat.le_refl n), if_pos rfl, if_pos rfl]
      congr 1
      rw [pc_cn, pc_cn]
      exact cn_congr n fun i hi => by rw [testBit_hi hs (by omega), if_neg (by omega)]
    cases ht : t.testBit n
    · have hz : sumTo (fun s => if subN (n + 1) (2 ^ n + s) t = true then c ^ pcTo (2 ^ n + s) (n + 1) else 0) (2 ^ n) = 0 := sumTo_zero fun s hs => by
        rw [if_neg]
        intro h
        have := subN_iff.1 h n (by omega) (by rw [testBit_hi hs (Nat.le_refl n), if_pos rfl])
        rw [ht] at this; cases this
      rw [hz]; rfl
    · rw [if_pos rfl, Nat.pow_succ, Nat.mul_add, Nat.mul_one, Nat.add_comm (_ * c)]
      congr 1
      rw [← ih, Nat.mul_comm, ← sumTo_mul]
      refine sumTo_congr fun s hs => ?_
      have e2 : subN (n + 1) (2 ^ n + s) t = subN n s t := by
        rw [Bool.eq_iff_iff, subN_iff, subN_iff]
        refine ⟨fun h i hi h1 => h i (by omega) (by rw [testBit_hi hs (by omega), if_neg (by omega)]; exact h1), fun h i hi h1 => ?_⟩
        by_cases e : i = n
        · subst e; exact ht
        · rw [testBit_hi hs (by omega), if_neg e] at h1
          exact h i (by omega) h1
      rw [e2, hpc s hs, Nat.pow_succ]
      split
      · rw [Nat.mul_comm]
      · rw [Nat.mul_zero]
/-- A sum over some of them is not more than over all. -/
theorem sumTo_fam {n : Nat} {S : List Nat} (h : Fam n S) (f : Nat → Nat) : ∀ m, m ≤ S.length → sumTo (fun i => f (S.getD i 0)) m ≤ sumTo f (if m = 0 then 0 else S.getD (m - 1) 0 + 1)
  | 0, _ => Nat.le_refl 0
  | m + 1, hm => by
    have ih := sumTo_fam h f m (by omega)
    rw [if_neg (by omega), Nat.add_sub_cancel]
    show sumTo _ m + f (S.getD m 0) ≤ sumTo f (S.getD m 0) + f (S.getD m 0)
    refine Nat.add_le_add_right (Nat.le_trans ih (sumTo_upW ?_)) _
    split
    · exact Nat.zero_le _
    · have := h.rise (m - 1) m (by omega) (by omega); omega
theorem wI_le {n : Nat} {S : List Nat} (h : Fam n S) (p : Nat → Nat → Bool) : ∀ k j, j < S.length → wI S p k j ≤ k ^ pcTo (S.getD j 0) n
  | 0, j, hj => by
    unfold wI
    split
    · rename_i e
      subst e
      rw [h.low]
      have : pcTo 0 n = 0 := by
        rw [pc_cn, cn_congr (q := fun _ => false) n fun i _ => Nat.zero_testBit i]
        clear h
        induction n with
        | zero => rfl
        | succ k ih => rw [cn_s, ih]; rfl
      rw [this]
      exact Nat.le_refl _
    · exact Nat.zero_le _
  | k + 1, j, hj => by
    rw [wI_s, ← pow_subs k (S.getD j 0) n]
    refine Nat.le_trans (sumTo_mono (g' := fun i => (fun s => if subN n s (S.getD j 0) = true then k ^ pcTo s n else 0) (S.getD i 0)) fun i hi => ?_) (Nat.le_trans (sumTo_fam h (fun s => if subN n s (S.getD j 0) = true then k ^ pcTo s n else 0) S.length (Nat.le_refl _)) (sumTo_upW ?_))
    · dsimp only
      split
      · rename_i hf
        unfold ftB at hf
        rw [Bool.and_eq_true] at hf
        rw [if_pos (subN_iff.2 fun q _ hq => sub_iff.1 hf.1 q hq)]
        exact wI_le h p k i hi
      · exact Nat.zero_le _
    · rw [if_neg (by have := h.pos; omega)]
      exact h.lt _ (by have := h.pos; omega)
theorem pcTo_le10 (x n : Nat) (hn : n ≤ 10) : pcTo x n ≤ 10 := Nat.le_trans (pcTo_le x n) hn
theorem wI_le21 {n : Nat} {S : List Nat} (h : Fam n S) (hn : n ≤ 10) (p : Nat → Nat → Bool) {k j : Nat} (hk : k ≤ 21) (hj : j < S.length) : wI S p k j ≤ 16679880978201 := by
  refine Nat.le_trans (wI_le h p k j hj) (Nat.le_trans (Nat.pow_le_pow_left hk _) ?_)
  exact Nat.le_trans (Nat.pow_le_pow_right (by decide) (pcTo_le10 _ n hn)) (by decide)
theorem wI_le10 {n : Nat} {S : List Nat} (h : Fam n S) (hn : n ≤ 10) (p : Nat → Nat → Bool) {k j : Nat} (hk : k ≤ 10) (hj : j < S.length) : wI S p k j ≤ 10000000000 := by
  refine Nat.le_trans (wI_le h p k j hj) (Nat.le_trans (Nat.pow_le_pow_left hk _) ?_)
  exact Nat.le_trans (Nat.pow_le_pow_right (by decide) (pcTo_le10 _ n hn)) (by decide)
/-! What the map holds. -/
structure MwK (S : List Nat) (w : Nat → Nat) (m : List (Int × Int)) : Prop where
  at_ : ∀ j, j < S.length → mgd m (S.getD j 0 : Nat) = (w j : Nat)
def cI (S : List Nat) (p : Nat → Nat → Bool) (k i j : Nat) : Nat := if ftB S p i j = true then wI S p k i else 0
/-- Sets below the i-th are done, and of that those below the j-th. -/
def nxI (S : List Nat) (p : Nat → Nat → Bool) (k i j t : Nat) : Nat := sumTo (fun a => cI S p k a t) i + if t < j then cI S p k i t else 0
theorem nxI_0 (S : List Nat) (p : Nat → Nat → Bool) (k t : Nat) : nxI S p k 0 0 t = 0 := rfl
theorem nxI_next (S : List Nat) (p : Nat → Nat → Bool) (k i : Nat) {t : Nat} (ht : t < S.length) : nxI S p k i S.length t = nxI S p k (i + 1) 0 t := by
  unfold nxI
  rw [if_pos ht, if_neg (by omega)]
  rfl
theorem nxI_skip (S : List Nat) (p : Nat → Nat → Bool) (k i t : Nat) (h : wI S p k i = 0) : nxI S p k i 0 t = nxI S p k (i + 1) 0 t := by
  unfold nxI
  rw [if_neg (by omega), if_neg (by omega)]
  show _ = sumTo _ i + cI S p k i t + 0
  unfold cI
  rw [h]; simp
theorem nxI_end (S : List Nat) (p : Nat → Nat → Bool) (k t : Nat) : nxI S p k S.length 0 t = wI S p (k + 1) t := by
  unfold nxI
  rw [if_neg (by omega), wI_s]
  rfl
theorem nxI_le (S : List Nat) (p : Nat → Nat → Bool) (k : Nat) {i j t : Nat} (hi : i < S.length) : nxI S p k i j t ≤ wI S p (k + 1) t := by
  rw [← nxI_end]
  have h1 : sumTo (fun a => cI S p k a t) (i + 1) ≤ sumTo (fun a => cI S p k a t) S.length := sumTo_upW (by omega)
  have h2 : sumTo (fun a => cI S p k a t) (i + 1) = sumTo (fun a => cI S p k a t) i + cI S p k i t := rfl
  unfold nxI
  rw [if_neg (Nat.not_lt_zero t)]
  split <;> omega
theorem MwK.yes {n : Nat} {S : List Nat} (h : Fam n S) {p : Nat → Nat → Bool} {k i j : Nat} {m : List (Int × Int)} (hm : MwK S (nxI S p k i j) m) (hj : j < S.length) (hf : ftB S p i j = true) : MwK S (nxI S p k i (j + 1)) (mput m (S.getD j 0 : Nat) ((nxI S p k i j j + wI S p k i : Nat) : Int)) := by
  refine ⟨fun t ht => ?_⟩
  rw [mgd_put]
  by_cases e : t = j
  · subst e
    rw [if_pos rfl]
    unfold nxI
    rw [if_neg (by omega), if_pos (by omega)]
    unfold cI
    rw [if_pos hf]
    omega
  · rw [if_neg (fun q => e (h.inj ht hj (by omega))), hm.at_ t ht]
    unfold nxI
    congr 2
    by_cases q : t < j
    · rw [if_pos q, if_pos (by omega)]
    · rw [if_neg q, if_neg (by omega)]
theorem MwK.no {S : List Nat} {p : Nat → Nat → Bool} {k i j : Nat} {m : List (Int × Int)} (hm : MwK S (nxI S p k i j) m) (hf : ftB S p i j = false) : MwK S (nxI S p k i (j + 1)) m := by
  refine ⟨fun t ht => ?_⟩
  rw [hm.at_ t ht]
  unfold nxI
  congr 2
  by_cases q : t < j
  · rw [if_pos q, if_pos (by omega)]
  · rw [if_neg q]
    by_cases e : t = j
    · subst e
      rw [if_pos (by omega)]
      unfold cI
      rw [if_neg (by rw [hf]; decide)]
    · rw [if_neg (by omega)]
theorem MwK.congr {S : List Nat} {w w' : Nat → Nat} {m : List (Int × Int)} (hm : MwK S w m) (h : ∀ t, t < S.length → w t = w' t) : MwK S w' m := ⟨fun t ht => by rw [hm.at_ t ht, h t ht]⟩
theorem mwK_zero (S : List Nat) (p : Nat → Nat → Bool) (k : Nat) : MwK S (nxI S p k 0 0) [] := ⟨fun t ht => by rw [nxI_0]; rfl⟩
theorem mwK_one {n : Nat} {S : List Nat} (h : Fam n S) (p : Nat → Nat → Bool) : MwK S (wI S p 0) [(0, 1)] := by
  refine ⟨fun t ht => ?_⟩
  unfold mgd mget mget wI
  by_cases e : t = 0
  · subst e
    rw [h.low, if_pos rfl]; rfl
  · have h0 : (0 : Int) ≠ (S.getD t 0 : Nat) := fun q => e (h.inj ht h.pos (by rw [h.low]; omega))
    rw [if_neg h0, if_neg e]; rfl
/-! The maps, one by one. -/
def nxM (S : List Nat) (p : Nat → Nat → Bool) (now : List (Int × Int)) (i : Nat) (m : List (Int × Int)) : Nat → List (Int × Int)
  | 0 => m
  | j + 1 => if ftB S p i j = true then mput (nxM S p now i m j) (S.getD j 0 : Nat) (mgd (nxM S p now i m j) (S.getD j 0 : Nat) + mgd now (S.getD i 0 : Nat)) else nxM S p now i m j
def rwM (S : List Nat) (p : Nat → Nat → Bool) (now : List (Int × Int)) : Nat → List (Int × Int)
  | 0 => []
  | i + 1 => if mgd now (S.getD i 0 : Nat) = 0 then rwM S p now i else nxM S p now i (rwM S p now i) S.length
def lsM (S : List Nat) (p : Nat → Nat → Bool) : Nat → List (Int × Int)
  | 0 => [(0, 1)]
  | k + 1 => rwM S p (lsM S p k) S.length
theorem nxM_ok {n : Nat} {S : List Nat} (h : Fam n S) {p : Nat → Nat → Bool} {k i : Nat} (hi : i < S.length) {now m : List (Int × Int)} (hw : MwK S (wI S p k) now) (hm : MwK S (nxI S p k i 0) m) : ∀ j, j ≤ S.length → MwK S (nxI S p k i j) (nxM S p now i m j)
  | 0, _ => hm
  | j + 1, hj => by
    have ih := nxM_ok h hi hw hm j (by omega)
    unfold nxM
    cases hf : ftB S p i j
    · rw [if_neg (by decide)]; exact ih.no hf
    · rw [if_pos rfl, ih.at_ j (by omega), hw.at_ i hi]
      exact ih.yes h (by omega) hf
theorem rwM_ok {n : Nat} {S : List Nat} (h : Fam n S) {p : Nat → Nat → Bool} {k : Nat} {now : List (Int × Int)} (hw : MwK S (wI S p k) now) : ∀ i, i ≤ S.length → MwK S (nxI S p k i 0) (rwM S p now i)
  | 0, _ => mwK_zero S p k
  | i + 1, hi => by
    have ih := rwM_ok h hw i (by omega)
    unfold rwM
    split
    · rename_i hz
      rw [hw.at_ i (by omega)] at hz
      exact ih.congr fun t _ => nxI_skip S p k i t (by omega)
    · exact (nxM_ok h (by omega) hw ih S.length (Nat.le_refl _)).congr fun t ht => nxI_next S p k i ht
theorem lsM_ok {n : Nat} {S : List Nat} (h : Fam n S) (p : Nat → Nat → Bool) : ∀ k, MwK S (wI S p k) (lsM S p k)
  | 0 => mwK_one h p
  | k + 1 => (rwM_ok h (lsM_ok h p k) S.length (Nat.le_refl _)).congr fun t _ => nxI_end S p k t
/-! The same with places instead of a map. -/
end Go.Proofs.YtkackilhfkicoaaDoor
