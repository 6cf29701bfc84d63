import Derived.Test.YtbgecpjlopdkfaaDoorIo
set_option linter.unusedSimpArgs false
set_option linter.unusedVariables false
set_option linter.unusedSectionVars false
set_option maxRecDepth 20000
namespace Go.Proofs.YtbgecpjlopdkfaaDoor
attribute [local irreducible] QOp aL aC qL
/-- A lattice: meets f, joins g. -/
structure Lt (n : Nat) (f g : Nat → Nat → Nat) : Prop where
  fl : ∀ x y, x < n → y < n → f x y < n
  gl : ∀ x y, x < n → y < n → g x y < n
  lf : LawT n f g
  lg : LawT n g f
theorem lt_of {n : Nat} {M J : List (List Nat)} (hM : Sq n M) (hJ : Sq n J) (h : lawB n (ta M) (ta J) = true) : Lt n (ta M) (ta J) := by
  unfold lawB at h
  rw [Bool.and_eq_true, decide_eq_true_eq, decide_eq_true_eq] at h
  exact ⟨hM.lt, hJ.lt, h.1, h.2⟩
namespace Lt
variable {n : Nat} {f g : Nat → Nat → Nat} (L : Lt n f g)
include L
theorem dual : Lt n g f := ⟨L.gl, L.fl, L.lg, L.lf⟩
theorem idem {x : Nat} (hx : x < n) : f x x = x := (L.lf x hx).1
theorem comm {x y : Nat} (hx : x < n) (hy : y < n) : f x y = f y x := ((L.lf x hx).2 y hy).1
theorem absorb {x y : Nat} (hx : x < n) (hy : y < n) : f x (g x y) = x := ((L.lf x hx).2 y hy).2.1
theorem assoc {x y z : Nat} (hx : x < n) (hy : y < n) (hz : z < n) : f x (f y z) = f (f x y) z := ((L.lf x hx).2 y hy).2.2 z hz
/-- x is below y in meets just if it is so in joins. -/
theorem up {x y : Nat} (hx : x < n) (hy : y < n) : f x y = x ↔ g x y = y := by
  constructor
  · intro h
    have := L.dual.absorb (x := y) (y := x) hy hx
    rw [L.comm hy hx, h, L.dual.comm hy hx] at this
    exact this
  · intro h
    have := L.absorb (x := x) (y := y) hx hy
    rw [h] at this
    exact this
theorem trans {x y z : Nat} (hx : x < n) (hy : y < n) (hz : z < n) (h1 : f x y = x) (h2 : f y z = y) : f x z = x := by
  rw [← h1, ← L.assoc hx hy hz, h2, h1]
theorem anti {x y : Nat} (hx : x < n) (hy : y < n) (h1 : f x y = x) (h2 : f y x = y) : x = y := by rw [← h1, L.comm hx hy, h2]
theorem below {x y : Nat} (hx : x < n) (hy : y < n) : f (f x y) x = f x y := by
  rw [L.comm (L.fl x y hx hy) hx, L.assoc hx hx hy, L.idem hx]
theorem below' {x y : Nat} (hx : x < n) (hy : y < n) : f (f x y) y = f x y := by
  rw [← L.assoc hx hy hy, L.idem hy]
theorem greatest {x y z : Nat} (hx : x < n) (hy : y < n) (hz : z < n) (h1 : f z x = z) (h2 : f z y = z) : f z (f x y) = z := by
  rw [L.assoc hz hx hy, h1, h2]
theorem above {x y : Nat} (hx : x < n) (hy : y < n) : f x (g x y) = x := L.absorb hx hy
theorem above' {x y : Nat} (hx : x < n) (hy : y < n) : f y (g x y) = y := by rw [L.dual.comm hx hy]; exact L.absorb hy hx
theorem least {x y z : Nat} (hx : x < n) (hy : y < n) (hz : z < n) (h1 : f x z = x) (h2 : f y z = y) : f (g x y) z = g x y := by
  rw [L.up (L.gl x y hx hy) hz, ← L.dual.assoc hx hy hz, (L.up hy hz).1 h2, (L.up hx hz).1 h1]
end Lt
/-! The least element, in two ways. -/
def endE (f : Nat → Nat → Nat) : Nat → Nat
  | 0 => 0
  | k + 1 => f (endE f k) k
def lowR (f : Nat → Nat → Nat) : Nat → Nat
  | 0 => 0
  | k + 1 => if f k (lowR f k) = k then k else lowR f k
def topR (f : Nat → Nat → Nat) : Nat → Nat
  | 0 => 0
  | k + 1 => if f (topR f k) k = topR f k then k else topR f k
theorem endE_lt {n : Nat} {f : Nat → Nat → Nat} (hf : ∀ x y, x < n → y < n → f x y < n) : ∀ k, k ≤ n → 0 < n → endE f k < n
  | 0, _, h => h
  | k + 1, hk, h => hf _ _ (endE_lt hf k (by omega) h) (by omega)
theorem lowR_lt {n : Nat} {f : Nat → Nat → Nat} : ∀ k, k ≤ n → 0 < n → lowR f k < n
  | 0, _, h => h
  | k + 1, hk, h => by
    unfold lowR
    split
    · omega
    · exact lowR_lt k (by omega) h
theorem topR_lt {n : Nat} {f : Nat → Nat → Nat} : ∀ k, k ≤ n → 0 < n → topR f k < n
  | 0, _, h => h
  | k + 1, hk, h => by
    unfold topR
    split
    · omega
    · exact topR_lt k (by omega) h
theorem endE_least {n : Nat} {f g : Nat → Nat → Nat} (L : Lt n f g) (h0 : 0 < n) : ∀ k, k ≤ n → ∀ x, x < k → f (endE f k) x = endE f k
  | 0, _, x, hx => by omega
  | k + 1, hk, x, hx => by
    have he := endE_lt L.fl k (by omega) h0
    show f (f (endE f k) k) x = f (endE f k) k
    by_cases h : x = k
    · subst h
      exact L.below' he (by omega)
    · have ih := endE_least L h0 k (by omega) x (by omega)
      exact L.trans (L.fl _ _ he (by omega)) he (by omega) (L.below he (by omega)) ih
theorem lowR_end {n : Nat} {f g : Nat → Nat → Nat} (L : Lt n f g) (h0 : 0 < n) : lowR f n = endE f n := by
  have hb := endE_lt L.fl n (Nat.le_refl _) h0
  have hl := endE_least L h0 n (Nat.le_refl _)
  have key : ∀ k, k ≤ n → endE f n < k → lowR f k = endE f n := by
    intro k
    induction k with
    | zero => intro _ h; omega
    | succ k ih =>
      intro hk h
      have hlk := lowR_lt (f := f) k (by omega) h0
      unfold lowR
      by_cases hkb : k = endE f n
      · rw [if_pos (by rw [hkb]; rw [← hkb]; rw [hkb]; exact hl _ (by rw [← hkb]; exact hlk))]
        exact hkb
      · have := ih (by omega) (by omega)
        rw [if_neg]
        · exact this
        · intro hc
          rw [this] at hc
          exact hkb (L.anti (by omega) hb hc (hl k (by omega)))
  exact key n (Nat.le_refl _) hb
/-! Maps that keep joins, and the way back. -/
def KeepsP (n ba bb : Nat) (ja jb : Nat → Nat → Nat) (F : Nat → Nat) : Prop := F ba = bb ∧ ∀ x, x < n → ∀ y, y < n → F (ja x y) = jb (F x) (F y)
instance (n ba bb : Nat) (ja jb : Nat → Nat → Nat) (F : Nat → Nat) : Decidable (KeepsP n ba bb ja jb F) := by unfold KeepsP; infer_instance
def OrgP (n : Nat) (fa fb : Nat → Nat → Nat) (F : Nat → Nat) (y x : Nat) : Prop := ∀ u, u < n → decide (fb (F u) y = F u) = decide (fa u x = u)
instance (n : Nat) (fa fb : Nat → Nat → Nat) (F : Nat → Nat) (y x : Nat) : Decidable (OrgP n fa fb F y x) := by unfold OrgP; infer_instance
theorem OrgP.iff {n : Nat} {fa fb : Nat → Nat → Nat} {F : Nat → Nat} {y x : Nat} (h : OrgP n fa fb F y x) {u : Nat} (hu : u < n) : fb (F u) y = F u ↔ fa u x = u := decide_eq_decide.1 (h u hu)
structure Bk (n k : Nat) (fa fb : Nat → Nat → Nat) (F : Nat → Nat) (G : List Nat) : Prop where
  len : G.length = k
  ok : ∀ y, y < k → G.getD y 0 < n ∧ OrgP n fa fb F y (G.getD y 0)
theorem Bk.le {n m : Nat} {fa fb : Nat → Nat → Nat} {F : Nat → Nat} {G : List Nat} (h : Bk n m fa fb F G) {x y : Nat} (hx : x < n) (hy : y < m) : fb (F x) y = F x ↔ fa x (G.getD y 0) = x := (h.ok y hy).2.iff hx
section
variable {n m : Nat} {fa ga fb gb : Nat → Nat → Nat} {F : Nat → Nat} {G : List Nat}
/-- The join of the elements below k that go below y. -/
def sup (fb ga : Nat → Nat → Nat) (F : Nat → Nat) (bot y : Nat) : Nat → Nat
  | 0 => bot
  | k + 1 => if fb (F k) y = F k then ga (sup fb ga F bot y k) k else sup fb ga F bot y k
end
end Go.Proofs.YtbgecpjlopdkfaaDoor
