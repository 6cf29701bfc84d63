import Derived.Test.YtbgecpjlopdkfaaDoorIo
set_option linter.unusedSimpArgs false
set_option linter.unusedVariables false
set_option linter.unusedSectionVars false
set_option maxRecDepth 20000
namespace Go.Proofs.YtbgecpjlopdkfaaDoor
attribute [local irreducible] QOp aL aC qL
/-- A lattice: meets f, joins g. -/
structure Lt (n : Nat) (f g : Nat → Nat → Nat) : Prop where
  fl : ∀ x y, x < n → y < n → f x y < n
  gl : ∀ x y, x < n → y < n → g x y < n
  lf : LawT n f g
  lg : LawT n g f
theorem lt_of {n : Nat} {M J : List (List Nat)} (hM : Sq n M) (hJ : Sq n J) (h : lawB n (ta M) (ta J) = true) : Lt n (ta M) (ta J) := by
  unfold lawB at h
  rw [Bool.and_eq_true, decide_eq_true_eq, decide_eq_true_eq] at h
  exact ⟨hM.lt, hJ.lt, h.1, h.2⟩
namespace Lt
variable {n : Nat} {f g : Nat → Nat → Nat} (L : Lt n f g)
include L
theorem dual : Lt n g f := ⟨L.gl, L.fl, L.lg, L.lf⟩
theorem idem {x : Nat} (hx : x < n) : f x x = x := (L.lf x hx).1
theorem comm {x y : Nat} (hx : x < n) (hy : y < n) : f x y = f y x := ((L.lf x hx).2 y hy).1
theorem absorb {x y : Nat} (hx : x < n) (hy : y < n) : f x (g x y) = x := ((L.lf x hx).2 y hy).2.1
theorem assoc {x y z : Nat} (hx : x < n) (hy : y < n) (hz : z < n) : f x (f y z) = f (f x y) z := ((L.lf x hx).2 y hy).2.2 z hz
/-- x is below y in meets just if it is so in joins. -/
theorem up {x y : Nat} (hx : x < n) (hy : y < n) : f x y = x ↔ g x y = y := by
  constructor
  · intro h
    have := L.dual.absorb (x := y) (y := x) hy hx
    rw [L.comm hy hx, h, L.dual.comm hy hx] at this
    exact this
  · intro h
    have := L.absorb (x := x) (y := y) hx hy
    rw [h] at this
    exact this
theorem trans {x y z : Nat} (hx : x < n) (hy : y < n) (hz : z < n) (h1 : f x y = x) (h2 : f y z = y) : f x z = x := by
  rw [← h1, ← L.assoc hx hy hz, h2, h1]
theorem below {x y : Nat} (hx : x < n) (hy : y < n) : f (f x y) x = f x y := by
  rw [L.comm (L.fl x y hx hy) hx, L.assoc hx hx hy, L.idem hx]
theorem below' {x y : Nat} (hx : x < n) (hy : y < n) : f (f x y) y = f x y := by
  rw [← L.assoc hx hy hy, L.idem hy]
theorem greatest {x y z : Nat} (hx : x < n) (hy : y < n) (hz : z < n) (h1 : f z x = z) (h2 : f z y = z) : f z (f x y) = z := by
  rw [L.assoc hz hx hy, h1, h2]
theorem above {x y : Nat} (hx : x < n) (hy : y < n) : f x (g x y) = x := L.absorb hx hy
theorem above' {x y : Nat} (hx : x < n) (hy : y < n) : f y (g x y) = y := by rw [L.dual.comm hx hy]; exact L.absorb hy hx
theorem least {x y z : Nat} (hx : x < n) (hy : y < n) (hz : z < n) (h1 : f x z = x) (h2 : f y z = y) : f (g x y) z = g x y := by
  rw [L.up (L.gl x y hx hy) hz, ← L.dual.assoc hx hy hz, (L.up hy hz).1 h2, (L.up hx hz).1 h1]
end Lt
/-! The least element, in two ways. -/
def endE (f : Nat → Nat → Nat) : Nat → Nat
  | 0 => 0
  | k + 1 => f (endE f k) k
def lowR (f : Nat → Nat → Nat) : Nat → Nat
  | 0 => 0
  | k + 1 => if f k (lowR f k) = k then k else lowR f k
def topR (f : Nat → Nat → Nat) : Nat → Nat
  | 0 => 0
  | k + 1 => if f (topR f k) k = topR f k then k else topR f k
theorem endE_lt {n : Nat} {f : Nat → Nat → Nat} (hf : ∀ x y, x < n → y < n → f x y < n) : ∀ k, k ≤ n → 0 < n → endE f k < n
  | 0, _, h => h
  | k + 1, hk, h => hf _ _ (endE_lt hf k (by omega) h) (by omega)
theorem endE_least {n : Nat} {f g : Nat → Nat → Nat} (L : Lt n f g) (h0 : 0 < n) : ∀ k, k ≤ n → ∀ x, x < k → f (endE f k) x = endE f k
  | 0, _, x, hx => by omega
  | k + 1, hk, x, hx => by
    have he := endE_lt L.fl k (by omega) h0
    show f (f (endE f k) k) x = f (endE f k) k
    by_cases h : x = k
    · subst h
      exact L.below' he (by omega)
    · have ih := endE_least L h0 k (by omega) x (by omega)
      exact L.trans (L.fl _ _ he (by omega)) he (by omega) (L.below he (by omega)) ih
/-! Maps that keep joins, and the way back. -/
def KeepsP (n ba bb : Nat) (ja jb : Nat → Nat → Nat) (F : Nat → Nat) : Prop := F ba = bb ∧ ∀ x, x < n → ∀ y, y < n → F (ja x y) = jb (F x) (F y)
instance (n ba bb : Nat) (ja jb : Nat → Nat → Nat) (F : Nat → Nat) : Decidable (KeepsP n ba bb ja jb F) := by unfold KeepsP; infer_instance
def OrgP (n : Nat) (fa fb : Nat → Nat → Nat) (F : Nat → Nat) (y x : Nat) : Prop := ∀ u, u < n → decide (fb (F u) y = F u) = decide (fa u x = u)
instance (n : Nat) (fa fb : Nat → Nat → Nat) (F : Nat → Nat) (y x : Nat) : Decidable (OrgP n fa fb F y x) := by unfold OrgP; infer_instance
theorem OrgP.iff {n : Nat} {fa fb : Nat → Nat → Nat} {F : Nat → Nat} {y x : Nat} (h : OrgP n fa fb F y x) {u : Nat} (hu : u < n) : fb (F u) y = F u ↔ fa u x = u := decide_eq_decide.1 (h u hu)
structure Bk (n k : Nat) (fa fb : Nat → Nat → Nat) (F : Nat → Nat) (G : List Nat) : Prop where
  len : G.length = k
  ok : ∀ y, y < k → G.getD y 0 < n ∧ OrgP n fa fb F y (G.getD y 0)
theorem Bk.pre {n k : Nat} {fa fb : Nat → Nat → Nat} {F : Nat → Nat} {G : List Nat} (h : Bk n k fa fb F G) {j : Nat} (hj : j ≤ k) : Bk n j fa fb F (G.take j) :=
  ⟨by rw [List.length_take, h.len]; omega, fun y hy => by
    have : (G.take j).getD y 0 = G.getD y 0 := by
      rw [List.getD_eq_getElem?_getD, List.getElem?_take, if_pos hy, ← List.getD_eq_getElem?_getD]
    rw [this]; exact h.ok y (by omega)⟩
theorem Bk.le {n m : Nat} {fa fb : Nat → Nat → Nat} {F : Nat → Nat} {G : List Nat} (h : Bk n m fa fb F G) {x y : Nat} (hx : x < n) (hy : y < m) : fb (F x) y = F x ↔ fa x (G.getD y 0) = x := (h.ok y hy).2.iff hx
section
variable {n m : Nat} {fa ga fb gb : Nat → Nat → Nat} {F : Nat → Nat} {G : List Nat}
/-- The join of the elements below k that go below y. -/
def sup (fb ga : Nat → Nat → Nat) (F : Nat → Nat) (bot y : Nat) : Nat → Nat
  | 0 => bot
  | k + 1 => if fb (F k) y = F k then ga (sup fb ga F bot y k) k else sup fb ga F bot y k
end
end Go.Proofs.YtbgecpjlopdkfaaDoor
set_option linter.unusedSimpArgs false
set_option linter.unusedVariables false
set_option linter.unusedSectionVars false
set_option maxRecDepth 20000
namespace Go.Proofs.YtbgecpjlopdkfaaDoor
attribute [local irreducible] QOp aL aC qL
/-- The join of the first so many elements whose meet with x is y, or below it. -/
def impF (f g : Nat → Nat → Nat) (low x y : Nat) : Nat → Nat
  | 0 => low
  | k + 1 => if f (f k x) y = f k x then g (impF f g low x y k) k else impF f g low x y k
def DisP (n : Nat) (f g : Nat → Nat → Nat) : Prop := ∀ x y z, x < n → y < n → z < n → f x (g y z) = g (f x y) (f x z)
section
variable {n : Nat} {f g : Nat → Nat → Nat} (L : Lt n f g) (h0 : 0 < n)
include L h0
theorem impF_lt {x y : Nat} : ∀ k, k ≤ n → impF f g (endE f n) x y k < n
  | 0, _ => endE_lt L.fl n (Nat.le_refl n) h0
  | k + 1, hk => by
    have ih := impF_lt (x := x) (y := y) k (by omega)
    rw [impF]
    split
    · exact L.gl _ _ ih (by omega)
    · exact ih
variable (hd : DisP n f g)
include hd
theorem impF_facts {x y : Nat} (hx : x < n) (hy : y < n) : ∀ k, k ≤ n → f (f (impF f g (endE f n) x y k) x) y = f (impF f g (endE f n) x y k) x ∧ ∀ u, u < k → f (f u x) y = f u x → f u (impF f g (endE f n) x y k) = u
  | 0, _ => by
    have hl := endE_lt L.fl n (Nat.le_refl n) h0
    have e := endE_least L h0 n (Nat.le_refl n)
    refine ⟨?_, fun u hu => absurd hu (Nat.not_lt_zero _)⟩
    show f (f (endE f n) x) y = f (endE f n) x
    rw [e x hx, e y hy]
  | k + 1, hk => by
    obtain ⟨i1, i2⟩ := impF_facts hx hy k (by omega)
    have hz := impF_lt L h0 (x := x) (y := y) k (by omega)
    have hkn : k < n := by omega
    rw [impF]
    generalize impF f g (endE f n) x y k = z at *
    by_cases hc : f (f k x) y = f k x
    · rw [if_pos hc]
      have hg := L.gl z k hz hkn
      refine ⟨?_, fun u hu hux => ?_⟩
      · have e : f (g z k) x = g (f z x) (f k x) := by
          rw [L.comm hg hx, hd x z k hx hz hkn, L.comm hx hz, L.comm hx hkn]
        rw [e]
        exact L.least (L.fl z x hz hx) (L.fl k x hkn hx) hy i1 hc
      · by_cases e : u = k
        · subst e; exact L.above' hz hkn
        · exact L.trans (by omega) hz hg (i2 u (by omega) hux) (L.above hz hkn)
    · rw [if_neg hc]
      refine ⟨i1, fun u hu hux => ?_⟩
      by_cases e : u = k
      · subst e; exact absurd hux hc
      · exact i2 u (by omega) hux
/-- It is what it shall be. -/
theorem imp_res {w x y : Nat} (hw : w < n) (hx : x < n) (hy : y < n) : f (f w x) y = f w x ↔ f w (impF f g (endE f n) x y n) = w := by
  obtain ⟨i1, i2⟩ := impF_facts L h0 hd hx hy n (Nat.le_refl n)
  have hz := impF_lt L h0 (x := x) (y := y) n (Nat.le_refl n)
  refine ⟨fun h => i2 w hw h, fun h => ?_⟩
  generalize impF f g (endE f n) x y n = z at *
  have h1 : f (f w x) (f z x) = f w x := L.greatest hz hx (L.fl w x hw hx) (L.trans (L.fl w x hw hx) hw hz (L.below hw hx) h) (L.below' hw hx)
  exact L.trans (L.fl w x hw hx) (L.fl z x hz hx) hy h1 i1
end
/-- The table of all. -/
def impR (f g : Nat → Nat → Nat) (low n x k : Nat) : List Nat := (List.range k).map fun y => impF f g low x y n
def impT (f g : Nat → Nat → Nat) (low n k : Nat) : List (List Nat) := (List.range k).map fun x => impR f g low n x n
theorem impR_succ (f g : Nat → Nat → Nat) (low n x k : Nat) : impR f g low n x (k + 1) = impR f g low n x k ++ [impF f g low x k n] := by
  unfold impR; rw [List.range_succ, List.map_append]; rfl
theorem impT_succ (f g : Nat → Nat → Nat) (low n k : Nat) : impT f g low n (k + 1) = impT f g low n k ++ [impR f g low n k n] := by
  unfold impT; rw [List.range_succ, List.map_append]; rfl
theorem impR_len (f g : Nat → Nat → Nat) (low n x k : Nat) : (impR f g low n x k).length = k := by simp [impR]
theorem impT_len (f g : Nat → Nat → Nat) (low n k : Nat) : (impT f g low n k).length = k := by simp [impT]
theorem impT_ta {f g : Nat → Nat → Nat} {low n x y : Nat} (hx : x < n) (hy : y < n) : ta (impT f g low n n) x y = impF f g low x y n := by
  unfold ta impT impR
  rw [List.getD_eq_getElem?_getD, List.getD_eq_getElem?_getD, List.getElem?_map, List.getElem?_range hx]
  simp [hy]
theorem impT_sq {n : Nat} {f g : Nat → Nat → Nat} (L : Lt n f g) (h0 : 0 < n) : Sq n (impT f g (endE f n) n n) := by
  refine ⟨impT_len _ _ _ _ _, fun x hx => ?_, fun x y hx hy => ?_⟩
  · unfold impT
    rw [List.getD_eq_getElem?_getD, List.getElem?_map, List.getElem?_range hx]
    exact impR_len _ _ _ _ _ _
  · rw [impT_ta hx hy]; exact impF_lt L h0 n (Nat.le_refl n)
end Go.Proofs.YtbgecpjlopdkfaaDoor
