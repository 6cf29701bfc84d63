import Derived.Test.YtjepdcfiogjmgaaJh
import Derived.Test.YtjepdcfiogjmgaaJj
import Derived.Test.YtjepdcfiogjmgaaJd
import Derived.Test.YtjepdcfiogjmgaaJm
import Derived.Test.YtjepdcfiogjmgaaQm
set_option linter.unusedSimpArgs false
set_option linter.unusedVariables false
set_option maxRecDepth 20000
set_option linter.unusedSectionVars false
namespace Go.Proofs.Ytjepdcfiogjmgaa
attribute [local irreducible] QOp aL aC qL
section
variable {n : Nat} {f g : Nat → Nat → Nat} (L : Lt n f g)
include L
/-- Irreducible. -/
abbrev Irr (n : Nat) (f : Nat → Nat → Nat) (x : Nat) : Prop := nc (fun y => decide (CovP n f x y)) n = 1
theorem irr_join {p a b : Nat} (hp : p < n) (ha : a < n) (hb : b < n) (h : Irr n f p) (hj : g a b = p) : a = p ∨ b = p := by
  obtain ⟨c, hc, h1, h2⟩ := nc_one.1 h
  have hcv := of_decide_eq_true h1
  by_cases e1 : a = p
  · exact .inl e1
  · by_cases e2 : b = p
    · exact .inr e2
    · exfalso
      have la : f a p = a := by rw [← hj]; exact L.above ha hb
      have lb : f b p = b := by rw [← hj]; exact L.above' ha hb
      obtain ⟨c1, q1, q2, q3⟩ := cov_above L hp ha e1 la
      obtain ⟨c2, r1, r2, r3⟩ := cov_above L hp hb e2 lb
      have d1 := h2 c1 q1 (decide_eq_true q2)
      have d2 := h2 c2 r1 (decide_eq_true r2)
      subst d1
      rw [d2] at r3
      have := L.least ha hb hc q3 r3
      rw [hj] at this
      exact hcv.1.1 (L.anti hc hp hcv.1.2 this)
theorem irr_low {p c : Nat} (hp : p < n) (hc : c < n) (h : Irr n f p) (hb : f p c = p) (hl : ∀ y, y < n → f c y = c) : False := by
  obtain ⟨d, hd, h1, _⟩ := nc_one.1 h
  have hcv := of_decide_eq_true h1
  exact hcv.1.1 (L.anti hd hp hcv.1.2 (L.trans hp hc hd hb (hl d hd)))
/-- Some of a list, taken together. -/
def bJ (g : Nat → Nat → Nat) (lo : Nat) (I : List Nat) (D : Nat) : Nat → Nat
  | 0 => lo
  | k + 1 => if D.testBit k = true then g (bJ g lo I D k) (I.getD k 0) else bJ g lo I D k
theorem bJ_ok {I : List Nat} {D lo : Nat} (hI : ∀ i, i < I.length → I.getD i 0 < n) (hlo : lo < n) : ∀ k, k ≤ I.length → bJ g lo I D k < n ∧ ∀ i, i < k → D.testBit i = true → f (I.getD i 0) (bJ g lo I D k) = I.getD i 0
  | 0, _ => ⟨hlo, fun i hi => absurd hi (Nat.not_lt_zero i)⟩
  | k + 1, hk => by
    obtain ⟨h1, h2⟩ := bJ_ok hI hlo k (by omega)
    have hIk := hI k (by omega)
    rw [bJ]
    split
    · rename_i hb
      refine ⟨L.gl _ _ h1 hIk, fun i hi hbi => ?_⟩
      by_cases e : i = k
      · subst e; exact L.above' h1 hIk
      · exact L.trans (hI i (by omega)) h1 (L.gl _ _ h1 hIk) (h2 i (by omega) hbi) (L.above h1 hIk)
    · rename_i hb
      refine ⟨h1, fun i hi hbi => ?_⟩
      by_cases e : i = k
      · subst e; exact absurd hbi hb
      · exact h2 i (by omega) hbi
theorem bJ_prime {I : List Nat} {D lo p : Nat} (hI : ∀ i, i < I.length → I.getD i 0 < n) (hlo : lo < n) (hl : ∀ y, y < n → f lo y = lo) (hd : ∀ x y z, x < n → y < n → z < n → f x (g y z) = g (f x y) (f x z)) (hp : p < n) (hi : Irr n f p) :
    ∀ k, k ≤ I.length → f p (bJ g lo I D k) = p → ∃ i, i < k ∧ D.testBit i = true ∧ f p (I.getD i 0) = p
  | 0, _, h => (irr_low L hp hlo hi h hl).elim
  | k + 1, hk, h => by
    have h1 := (bJ_ok L (D := D) hI hlo k (by omega)).1
    have hIk := hI k (by omega)
    rw [bJ] at h
    split at h
    · rename_i hb
      rw [hd p _ _ hp h1 hIk] at h
      rcases irr_join L hp (L.fl _ _ hp h1) (L.fl _ _ hp hIk) hi h with h2 | h2
      · obtain ⟨i, a, b, c⟩ := bJ_prime hI hlo hl hd hp hi k (by omega) h2
        exact ⟨i, by omega, b, c⟩
      · exact ⟨k, by omega, hb, h2⟩
    · obtain ⟨i, a, b, c⟩ := bJ_prime hI hlo hl hd hp hi k (by omega) h
      exact ⟨i, by omega, b, c⟩
end
theorem bsT_bsQ (p : Nat → Bool) : ∀ k, bsT p k = bs p k
  | 0 => rfl
  | k + 1 => by rw [bsT, bs, bsT_bsQ p k]
theorem orT_ofnQ (n : Nat) (p : Nat → Nat → Bool) : orT n p n = ofn n p := by
  unfold orT ofn
  exact List.map_congr_left fun b _ => bsT_bsQ _ n
theorem irT_get {n : Nat} {M : List (List Nat)} {i : Nat} (hi : i < (irT n M n).length) : (irT n M n).getD i 0 < n ∧ Irr n (ta M) ((irT n M n).getD i 0) := by
  have := rng_get (fun x => decide (nc (fun y => decide (CovP n (ta M) x y)) n = 1)) n hi
  exact ⟨this.1, of_decide_eq_true this.2⟩
theorem irT_at {n : Nat} {M : List (List Nat)} {p : Nat} (hp : p < n) (h : Irr n (ta M) p) : ∃ i, i < (irT n M n).length ∧ (irT n M n).getD i 0 = p := rng_at (p := fun x => decide (nc (fun y => decide (CovP n (ta M) x y)) n = 1)) hp (decide_eq_true h)
/-- The order of the irreducible ones. -/
def ioN (n : Nat) (M : List (List Nat)) : List Nat := ofn (irT n M n).length (blT M (irT n M n))
/-- The set of an element. -/
def ipS (n : Nat) (M : List (List Nat)) (x : Nat) : Nat := psT n M x (irT n M n).length
section
variable {n : Nat} {M J : List (List Nat)} (hL : La n M J)
include hL
theorem io_lt {a b : Nat} (ha : a < (irT n M n).length) (hb : b < (irT n M n).length) : lt (ioN n M) a b = true ↔ (irT n M n).getD a 0 ≠ (irT n M n).getD b 0 ∧ ta M ((irT n M n).getD a 0) ((irT n M n).getD b 0) = (irT n M n).getD a 0 := by
  unfold ioN
  rw [ofn_lt _ ha hb]
  unfold blT
  rw [Bool.and_eq_true, decide_eq_true_eq, decide_eq_true_eq]
end
end Go.Proofs.Ytjepdcfiogjmgaa
