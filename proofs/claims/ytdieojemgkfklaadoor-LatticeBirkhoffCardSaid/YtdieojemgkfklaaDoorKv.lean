/- Modular lattices and pentagons (plain). -/
import Derived.Test.YtdieojemgkfklaaDoorKp
set_option linter.unusedSimpArgs false
set_option linter.unusedVariables false
set_option maxRecDepth 20000
namespace Go.Proofs.YtdieojemgkfklaaDoor
attribute [local irreducible] QOp aL aC qL
section
variable {n : Nat} {f g : Nat → Nat → Nat}
theorem pen_of_mod (L : Lt n f g) {x y z : Nat} (hx : x < n) (hy : y < n) (hz : z < n) (h1 : f x z = x) (h2 : g x (f y z) ≠ f (g x y) z) :
    ∃ a b c, a < n ∧ b < n ∧ c < n ∧ a ≠ b ∧ f a b = a ∧ f a c = f b c ∧ g a c = g b c := by
  have hyz := L.fl y z hy hz
  have hxy := L.gl x y hx hy
  have ha := L.gl x (f y z) hx hyz
  have hb := L.fl (g x y) z hxy hz
  have s1 : f (f y z) y = f y z := L.below hy hz
  have s2 : f (f y z) z = f y z := L.below' hy hz
  have s3 : f (f y z) (g x y) = f y z := L.trans hyz hy hxy s1 (L.above' hx hy)
  have xb : f x (f (g x y) z) = x := L.greatest hxy hz hx (L.above hx hy) h1
  have yzb : f (f y z) (f (g x y) z) = f y z := L.greatest hxy hz hyz s3 s2
  have ab : f (g x (f y z)) (f (g x y) z) = g x (f y z) := L.least hx hyz hb xb yzb
  have b1 : f (f (g x y) z) (g x y) = f (g x y) z := L.below hxy hz
  have b2 : f (f (g x y) z) z = f (g x y) z := L.below' hxy hz
  have xa : f x (g x (f y z)) = x := L.above hx hyz
  have yza : f (f y z) (g x (f y z)) = f y z := L.above' hx hyz
  generalize g x (f y z) = a at *
  generalize f (g x y) z = b at *
  have e1 : f a y = f y z := by
    have hay := L.fl a y ha hy
    have t1 : f (f a y) a = f a y := L.below ha hy
    have t2 : f (f a y) y = f a y := L.below' ha hy
    refine L.anti hay hyz (L.greatest hy hz hay t2 (L.trans hay ha hz t1 (L.trans ha hb hz ab b2))) (L.greatest ha hy hyz yza s1)
  have e2 : f b y = f y z := by
    have hby := L.fl b y hb hy
    have t1 : f (f b y) b = f b y := L.below hb hy
    have t2 : f (f b y) y = f b y := L.below' hb hy
    refine L.anti hby hyz (L.greatest hy hz hby t2 (L.trans hby hb hz t1 b2)) (L.greatest hb hy hyz yzb s1)
  have e3 : g a y = g x y := by
    have hay := L.gl a y ha hy
    refine L.anti hay hxy (L.least ha hy hxy (L.trans ha hb hxy ab b1) (L.above' hx hy)) (L.least hx hy hay (L.trans hx ha hay xa (L.above ha hy)) (L.above' ha hy))
  have e4 : g b y = g x y := by
    have hby := L.gl b y hb hy
    refine L.anti hby hxy (L.least hb hy hxy b1 (L.above' hx hy)) (L.least hx hy hby (L.trans hx hb hby xb (L.above hb hy)) (L.above' hb hy))
  exact ⟨a, b, y, ha, hb, hy, h2, ab, e1.trans e2.symm, e3.trans e4.symm⟩
theorem mod_of_pen (L : Lt n f g) {a b c : Nat} (ha : a < n) (hb : b < n) (hc : c < n) (h1 : a ≠ b) (h2 : f a b = a) (h3 : f a c = f b c) (h4 : g a c = g b c) : f a b = a ∧ g a (f c b) ≠ f (g a c) b := by
  refine ⟨h2, fun h => h1 ?_⟩
  rw [L.comm hc hb, ← h3, L.dual.absorb ha hc, h4, L.comm (L.gl b c hb hc) hb, L.absorb hb hc] at h
  exact h
end
theorem mod_pen {n : Nat} {M J : List (List Nat)} (hL : La n M J) : triB n (modP M J) = triB n (penP M J) := by
  have key : triB n (modP M J) = false ↔ triB n (penP M J) = false := by
    rw [triB_iff, triB_iff]
    constructor
    · intro h x y z hx hy hz
      cases hp : penP M J x y z
      · rfl
      · unfold penP alkP at hp
        simp only [Bool.and_eq_true, decide_eq_true_eq] at hp
        have := mod_of_pen hL.A hx hy hz hp.1.1 hp.1.2 hp.2.1 hp.2.2
        have h2 := h x z y hx hz hy
        unfold modP at h2
        rw [decide_eq_true this.1, decide_eq_true this.2] at h2
        cases h2
    · intro h x y z hx hy hz
      cases hp : modP M J x y z
      · rfl
      · unfold modP at hp
        simp only [Bool.and_eq_true, decide_eq_true_eq] at hp
        obtain ⟨a, b, c, ha, hb, hc, q1, q2, q3, q4⟩ := pen_of_mod hL.A hx hy hz hp.1 hp.2
        have h2 := h a b c ha hb hc
        unfold penP alkP at h2
        rw [decide_eq_true q1, decide_eq_true q2, decide_eq_true q3, decide_eq_true q4] at h2
        cases h2
  cases h1 : triB n (modP M J) <;> cases h2 : triB n (penP M J)
  · rfl
  · rw [key.1 h1] at h2; cases h2
  · rw [key.2 h2] at h1; cases h1
  · rfl
theorem La.dual {n : Nat} {M J : List (List Nat)} (hL : La n M J) : La n J M := ⟨hL.n1, hL.n2, hL.sJ, hL.sM, hL.A.dual⟩
theorem pen_dual {n : Nat} {M J : List (List Nat)} (hL : La n M J) : triB n (penP M J) = false → triB n (penP J M) = false := by
  rw [triB_iff, triB_iff]
  intro h x y z hx hy hz
  cases hp : penP J M x y z
  · rfl
  · unfold penP alkP at hp
    simp only [Bool.and_eq_true, decide_eq_true_eq] at hp
    have h2 := h y x z hy hx hz
    unfold penP alkP at h2
    have e : ta M y x = y := (hL.A.up hy hx).2 (by rw [hL.A.dual.comm hy hx]; exact hp.1.2)
    rw [decide_eq_true (Ne.symm hp.1.1), decide_eq_true e, decide_eq_true hp.2.2.symm, decide_eq_true hp.2.1.symm] at h2
    cases h2
theorem mod_dual {n : Nat} {M J : List (List Nat)} (hL : La n M J) : triB n (modP J M) = triB n (modP M J) := by
  rw [mod_pen hL, mod_pen hL.dual]
  cases h1 : triB n (penP M J) <;> cases h2 : triB n (penP J M)
  · rfl
  · rw [pen_dual hL h1] at h2; cases h2
  · rw [pen_dual hL.dual h2] at h1; cases h1
  · rfl
end Go.Proofs.YtdieojemgkfklaaDoor
