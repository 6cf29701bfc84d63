import Derived.Test.YtbgecpjlopdkfaaDoorIp
set_option linter.unusedSimpArgs false
set_option linter.unusedVariables false
set_option linter.unusedSectionVars false
set_option maxRecDepth 20000
namespace Go.Proofs.YtbgecpjlopdkfaaDoor
attribute [local irreducible] QOp aL aC qL
/-- The join of the first so many elements whose meet with x is y, or below it. -/
def impF (f g : Nat → Nat → Nat) (low x y : Nat) : Nat → Nat
  | 0 => low
  | k + 1 => if f (f k x) y = f k x then g (impF f g low x y k) k else impF f g low x y k
def DisP (n : Nat) (f g : Nat → Nat → Nat) : Prop := ∀ x y z, x < n → y < n → z < n → f x (g y z) = g (f x y) (f x z)
section
variable {n : Nat} {f g : Nat → Nat → Nat} (L : Lt n f g) (h0 : 0 < n)
include L h0
theorem impF_lt {x y : Nat} : ∀ k, k ≤ n → impF f g (endE f n) x y k < n
  | 0, _ => endE_lt L.fl n (Nat.le_refl n) h0
  | k + 1, hk => by
    have ih := impF_lt (x := x) (y := y) k (by omega)
    rw [impF]
    split
    · exact L.gl _ _ ih (by omega)
    · exact ih
variable (hd : DisP n f g)
include hd
theorem impF_facts {x y : Nat} (hx : x < n) (hy : y < n) : ∀ k, k ≤ n → f (f (impF f g (endE f n) x y k) x) y = f (impF f g (endE f n) x y k) x ∧ ∀ u, u < k → f (f u x) y = f u x → f u (impF f g (endE f n) x y k) = u
  | 0, _ => by
    have hl := endE_lt L.fl n (Nat.le_refl n) h0
    have e := endE_least L h0 n (Nat.le_refl n)
    refine ⟨?_, fun u hu => absurd hu (Nat.not_lt_zero _)⟩
    show f (f (endE f n) x) y = f (endE f n) x
    rw [e x hx, e y hy]
  | k + 1, hk => by
    obtain ⟨i1, i2⟩ := impF_facts hx hy k (by omega)
    have hz := impF_lt L h0 (x := x) (y := y) k (by omega)
    have hkn : k < n := by omega
    rw [impF]
    generalize impF f g (endE f n) x y k = z at *
    by_cases hc : f (f k x) y = f k x
    · rw [if_pos hc]
      have hg := L.gl z k hz hkn
      refine ⟨?_, fun u hu hux => ?_⟩
      · have e : f (g z k) x = g (f z x) (f k x) := by
          rw [L.comm hg hx, hd x z k hx hz hkn, L.comm hx hz, L.comm hx hkn]
        rw [e]
        exact L.least (L.fl z x hz hx) (L.fl k x hkn hx) hy i1 hc
      · by_cases e : u = k
        · subst e; exact L.above' hz hkn
        · exact L.trans (by omega) hz hg (i2 u (by omega) hux) (L.above hz hkn)
    · rw [if_neg hc]
      refine ⟨i1, fun u hu hux => ?_⟩
      by_cases e : u = k
      · subst e; exact absurd hux hc
      · exact i2 u (by omega) hux
/-- It is what it shall be. -/
theorem imp_res {w x y : Nat} (hw : w < n) (hx : x < n) (hy : y < n) : f (f w x) y = f w x ↔ f w (impF f g (endE f n) x y n) = w := by
  obtain ⟨i1, i2⟩ := impF_facts L h0 hd hx hy n (Nat.le_refl n)
  have hz := impF_lt L h0 (x := x) (y := y) n (Nat.le_refl n)
  refine ⟨fun h => i2 w hw h, fun h => ?_⟩
  generalize impF f g (endE f n) x y n = z at *
  have h1 : f (f w x) (f z x) = f w x := L.greatest hz hx (L.fl w x hw hx) (L.trans (L.fl w x hw hx) hw hz (L.below hw hx) h) (L.below' hw hx)
  exact L.trans (L.fl w x hw hx) (L.fl z x hz hx) hy h1 i1
/-- There is no other one. -/
theorem imp_one {x y z : Nat} (hx : x < n) (hy : y < n) (hz : z < n) (h1 : f (f x z) y = f x z) (h2 : ∀ w, w < n → f (f x w) y = f x w → f w z = w) : z = impF f g (endE f n) x y n := by
  have hi := impF_lt L h0 (x := x) (y := y) n (Nat.le_refl n)
  refine L.anti hz hi ((imp_res L h0 hd hz hx hy).1 (by rw [L.comm hz hx]; exact h1)) (h2 _ hi ?_)
  rw [L.comm hx hi]
  exact (impF_facts L h0 hd hx hy n (Nat.le_refl n)).1
theorem imp_is {x y : Nat} (hx : x < n) (hy : y < n) : f (f x (impF f g (endE f n) x y n)) y = f x (impF f g (endE f n) x y n) ∧ ∀ w, w < n → f (f x w) y = f x w → f w (impF f g (endE f n) x y n) = w := by
  have hi := impF_lt L h0 (x := x) (y := y) n (Nat.le_refl n)
  refine ⟨by rw [L.comm hx hi]; exact (impF_facts L h0 hd hx hy n (Nat.le_refl n)).1, fun w hw h => (imp_res L h0 hd hw hx hy).1 (by rw [L.comm hw hx]; exact h)⟩
end
/-- The table of all. -/
def impR (f g : Nat → Nat → Nat) (low n x k : Nat) : List Nat := (List.range k).map fun y => impF f g low x y n
def impT (f g : Nat → Nat → Nat) (low n k : Nat) : List (List Nat) := (List.range k).map fun x => impR f g low n x n
theorem impR_succ (f g : Nat → Nat → Nat) (low n x k : Nat) : impR f g low n x (k + 1) = impR f g low n x k ++ [impF f g low x k n] := by
  unfold impR; rw [List.range_succ, List.map_append]; rfl
theorem impT_succ (f g : Nat → Nat → Nat) (low n k : Nat) : impT f g low n (k + 1) = impT f g low n k ++ [impR f g low n k n] := by
  unfold impT; rw [List.range_succ, List.map_append]; rfl
theorem impR_len (f g : Nat → Nat → Nat) (low n x k : Nat) : (impR f g low n x k).length = k := by simp [impR]
theorem impT_len (f g : Nat → Nat → Nat) (low n k : Nat) : (impT f g low n k).length = k := by simp [impT]
theorem impT_ta {f g : Nat → Nat → Nat} {low n x y : Nat} (hx : x < n) (hy : y < n) : ta (impT f g low n n) x y = impF f g low x y n := by
  unfold ta impT impR
  rw [List.getD_eq_getElem?_getD, List.getD_eq_getElem?_getD, List.getElem?_map, List.getElem?_range hx]
  simp [hy]
theorem impT_sq {n : Nat} {f g : Nat → Nat → Nat} (L : Lt n f g) (h0 : 0 < n) : Sq n (impT f g (endE f n) n n) := by
  refine ⟨impT_len _ _ _ _ _, fun x hx => ?_, fun x y hx hy => ?_⟩
  · unfold impT
    rw [List.getD_eq_getElem?_getD, List.getElem?_map, List.getElem?_range hx]
    exact impR_len _ _ _ _ _ _
  · rw [impT_ta hx hy]; exact impF_lt L h0 n (Nat.le_refl n)
end Go.Proofs.YtbgecpjlopdkfaaDoor
