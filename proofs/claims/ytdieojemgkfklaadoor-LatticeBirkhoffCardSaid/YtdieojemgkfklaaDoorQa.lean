/- A lattice is distributive just if it has neither pentagon nor diamond (plain). -/
import Derived.Test.YtdieojemgkfklaaDoorKv
set_option linter.unusedSimpArgs false
set_option linter.unusedVariables false
set_option maxRecDepth 20000
namespace Go.Proofs.YtdieojemgkfklaaDoor
attribute [local irreducible] QOp aL aC qL
namespace M3
structure Al {α : Type} (f g : α → α → α) : Prop where
  fc : ∀ x y, f x y = f y x
  fa : ∀ x y z, f (f x y) z = f x (f y z)
  gc : ∀ x y, g x y = g y x
  ga : ∀ x y z, g (g x y) z = g x (g y z)
  fg : ∀ x y, f x (g x y) = x
  gf : ∀ x y, g x (f x y) = x
section
variable {α : Type} {f g : α → α → α}
theorem Al.dual (L : Al f g) : Al g f := ⟨L.gc, L.ga, L.fc, L.fa, L.gf, L.fg⟩
theorem Al.fi (L : Al f g) (x : α) : f x x = x := by have := L.fg x (f x x); rw [L.gf] at this; exact this
theorem Al.up (L : Al f g) {x y : α} (h : f x y = x) : g x y = y := by rw [← h, L.gc, L.fc]; exact L.gf y x
theorem Al.dn (L : Al f g) {x y : α} (h : g x y = y) : f x y = x := by rw [← h]; exact L.fg x y
theorem Al.trans (L : Al f g) {x y z : α} (h1 : f x y = x) (h2 : f y z = y) : f x z = x := by rw [← h1, L.fa, h2]
theorem Al.l1 (L : Al f g) (x y : α) : f (f x y) x = f x y := by rw [L.fc (f x y), ← L.fa, L.fi]
theorem Al.l2 (L : Al f g) (x y : α) : f (f x y) y = f x y := by rw [L.fa, L.fi]
theorem Al.r1 (L : Al f g) (x y : α) : f x (g x y) = x := L.fg x y
theorem Al.r2 (L : Al f g) (x y : α) : f y (g x y) = y := by rw [L.gc]; exact L.fg y x
theorem Al.glb (L : Al f g) {x y z : α} (h1 : f z x = z) (h2 : f z y = z) : f z (f x y) = z := by rw [← L.fa, h1, h2]
theorem Al.lub (L : Al f g) {x y z : α} (h1 : f x z = x) (h2 : f y z = y) : f (g x y) z = g x y := L.dn (by rw [L.ga, L.up h2, L.up h1])
theorem Al.anti (L : Al f g) {x y : α} (h1 : f x y = x) (h2 : f y x = y) : x = y := by rw [← h1, L.fc, h2]
def Md (f g : α → α → α) : Prop := ∀ x y z, f x z = x → g x (f y z) = f (g x y) z
theorem Al.md (L : Al f g) (h : Md f g) : Md g f := fun x y z hz => by
  have := h z y x (L.dn (by rw [L.gc]; exact hz))
  rw [L.fc x (g y z), L.gc y z, ← this, L.gc z, L.fc y x]
def dd (f g : α → α → α) (x y z : α) : α := g (g (f x y) (f y z)) (f z x)
theorem dd_rot (L : Al f g) (x y z : α) : dd f g y z x = dd f g x y z := by
  unfold dd; rw [L.gc (g (f x y) (f y z)), L.gc (f x y), ← L.ga, L.gc (f z x), ]
theorem dd_le (L : Al f g) (x y z : α) : f (dd f g x y z) (dd g f x y z) = dd f g x y z := by
  have h : ∀ p q r, f (f p q) (dd g f p q r) = f p q := fun p q r => by
    unfold dd
    exact L.glb (L.glb (L.trans (L.l1 _ _) (L.r1 _ _)) (L.trans (L.l2 _ _) (L.r1 _ _))) (L.trans (L.l1 _ _) (L.r2 _ _))
  have h1 := h x y z
  have h2 := h y z x
  have h3 := h z x y
  rw [dd_rot L.dual x y z] at h2
  rw [← dd_rot L.dual z x y] at h3
  have e : dd f g x y z = g (g (f x y) (f y z)) (f z x) := rfl
  rw [e]
  exact L.lub (L.lub h1 h2) h3
theorem xu (L : Al f g) (x y z : α) : f x (dd g f x y z) = f x (g y z) := by
  unfold dd
  refine L.anti (L.glb (L.l1 _ _) (L.trans (L.l2 _ _) (L.trans (L.l1 _ _) (L.l2 _ _)))) ?_
  exact L.glb (L.l1 _ _) (L.glb (L.glb (L.trans (L.l1 _ _) (L.r1 _ _)) (L.l2 _ _)) (L.trans (L.l1 _ _) (L.r2 _ _)))
theorem xd (L : Al f g) (h : Md f g) (x y z : α) : f x (dd f g x y z) = g (f x y) (f x z) := by
  have hp : f (g (f x y) (f x z)) x = g (f x y) (f x z) := L.lub (L.l1 _ _) (L.l1 _ _)
  have h1 := h _ (f y z) x hp
  have e : g (g (f x y) (f x z)) (f y z) = dd f g x y z := by unfold dd; rw [L.ga, L.ga, L.gc (f x z), L.fc x z]
  rw [e] at h1
  rw [L.fc, ← h1, L.gc]
  exact L.up (L.trans (L.trans (L.glb (L.l2 _ _) (L.trans (L.l1 _ _) (L.l1 _ _))) (L.fi _)) (L.r1 _ _))
def aa (f g : α → α → α) (x y z : α) : α := g (f x (dd g f x y z)) (dd f g x y z)
theorem aa_dual (L : Al f g) (h : Md f g) (x y z : α) : aa g f x y z = aa f g x y z := by
  have := h _ x _ (dd_le L x y z)
  unfold aa
  rw [L.gc x, ← this, L.gc]
theorem meet (L : Al f g) (h : Md f g) (x y z : α) : f (aa f g x y z) (aa f g y z x) = dd f g x y z := by
  have e1 : aa f g x y z = g (dd f g x y z) (f x (g y z)) := by unfold aa; rw [xu L, L.gc]
  have e2 : aa f g y z x = f (g y (dd f g x y z)) (dd g f x y z) := by rw [← aa_dual L h]; unfold aa; rw [dd_rot L, dd_rot L.dual]
  have e3 : g y (dd f g x y z) = g y (f x z) := by
    unfold dd
    refine L.anti (L.lub (L.r1 _ _) (L.lub (L.lub (L.trans (L.l2 _ _) (L.r1 _ _)) (L.trans (L.l1 _ _) (L.r1 _ _))) (by rw [L.fc z x]; exact L.r2 _ _))) ?_
    exact L.lub (L.r1 _ _) (by rw [L.fc x z]; exact L.trans (L.r2 (g (f x y) (f y z)) _) (L.r2 _ _))
  have hd : f (dd f g x y z) (aa f g y z x) = dd f g x y z := by
    rw [e2]
    exact L.glb (L.r2 _ _) (dd_le L x y z)
  rw [e1, ← h _ _ _ hd, L.gc]
  refine L.up ?_
  have e4 : f (f (f x (g y z)) (aa f g y z x)) (f x (g y (f x z))) = f (f x (g y z)) (aa f g y z x) := by
    rw [e2, e3]
    exact L.glb (L.trans (L.l1 _ _) (L.l1 _ _)) (L.trans (L.l2 _ _) (L.l1 _ _))
  have e5 : f x (g y (f x z)) = g (f x z) (f y x) := by
    have := h (f x z) y x (L.l1 _ _)
    rw [L.fc x, L.gc y, ← this]
  refine L.trans e4 ?_
  rw [e5]
  unfold dd
  refine L.lub (by rw [L.fc x z]; exact L.r2 _ _) (by rw [L.fc y x]; exact L.trans (L.r1 _ _) (L.r1 _ _))
theorem dia_of (L : Al f g) (h : Md f g) {x y z : α} (hn : f x (g y z) ≠ g (f x y) (f x z)) : ∃ a b c, a ≠ b ∧ b ≠ c ∧ a ≠ c ∧ f a c = f b c ∧ g a c = g b c ∧ f b a = f c a ∧ g b a = g c a := by
  have m1 := meet L h x y z
  have m2 := meet L h y z x
  have m3 := meet L h z x y
  have j1 := meet L.dual (L.md h) x y z
  have j2 := meet L.dual (L.md h) y z x
  have j3 := meet L.dual (L.md h) z x y
  rw [aa_dual L h, aa_dual L h] at j1 j2 j3
  have r1 := dd_rot L x y z
  have r2 := dd_rot L y z x
  have s1 := dd_rot L.dual x y z
  have s2 := dd_rot L.dual y z x
  rw [r1] at m2; rw [r2, r1] at m3; rw [s1] at j2; rw [s2, s1] at j3
  have hne : dd f g x y z ≠ dd g f x y z := fun he => hn (by rw [← xu L, ← xd L h, he])
  generalize aa f g x y z = a at *
  generalize aa f g y z x = b at *
  generalize aa f g z x y = c at *
  generalize dd f g x y z = d at *
  generalize dd g f x y z = u at *
  refine ⟨a, b, c, ?_, ?_, ?_, ?_, ?_, ?_, ?_⟩
  · rintro rfl; rw [L.fi] at m1; rw [L.dual.fi] at j1; exact hne (m1.symm.trans j1)
  · rintro rfl; rw [L.fi] at m2; rw [L.dual.fi] at j2; exact hne (m2.symm.trans j2)
  · rintro rfl; rw [L.fi] at m3; rw [L.dual.fi] at j3; exact hne (m3.symm.trans j3)
  · rw [m2, L.fc, m3]
  · rw [j2, L.gc, j3]
  · rw [L.fc, m1, m3]
  · rw [L.gc, j1, j3]
end
end M3
theorem La.al {n : Nat} {M J : List (List Nat)} (hL : La n M J) : M3.Al (fun a b : Fin n => ⟨ta M a b, hL.A.fl a b a.2 b.2⟩) (fun a b : Fin n => ⟨ta J a b, hL.A.gl a b a.2 b.2⟩) where
  fc x y := Fin.ext (hL.A.comm x.2 y.2)
  fa x y z := Fin.ext (hL.A.assoc x.2 y.2 z.2).symm
  gc x y := Fin.ext (hL.A.dual.comm x.2 y.2)
  ga x y z := Fin.ext (hL.A.dual.assoc x.2 y.2 z.2).symm
  fg x y := Fin.ext (hL.A.absorb x.2 y.2)
  gf x y := Fin.ext (hL.A.dual.absorb x.2 y.2)
theorem dia_of_mod {n : Nat} {M J : List (List Nat)} (hL : La n M J) (hm : triB n (modP M J) = false) (hd : triB n (diaP M J) = false) : triB n (disP M J) = false := by
  rw [triB_iff] at hm hd ⊢
  intro x y z hx hy hz
  cases hp : disP M J x y z
  · rfl
  · unfold disP at hp
    rw [decide_eq_true_eq] at hp
    have h := M3.dia_of hL.al (fun x y z hxz => Fin.ext (by
      have := hm x y z x.2 y.2 z.2
      unfold modP at this
      rw [decide_eq_true (show ta M x z = x from congrArg Fin.val hxz), Bool.true_and, decide_eq_false_iff_not, ne_eq, Classical.not_not] at this
      exact this)) (x := ⟨x, hx⟩) (y := ⟨y, hy⟩) (z := ⟨z, hz⟩) (fun h => hp (congrArg Fin.val h))
    obtain ⟨a, b, c, h1, h2, h3, h4, h5, h6, h7⟩ := h
    have := hd a b c a.2 b.2 c.2
    unfold diaP alkP at this
    rw [decide_eq_true (show (a : Nat) ≠ b from fun h => h1 (Fin.ext h)), decide_eq_true (show (b : Nat) ≠ c from fun h => h2 (Fin.ext h)), decide_eq_true (show (a : Nat) ≠ c from fun h => h3 (Fin.ext h)),
      decide_eq_true (show ta M a c = ta M b c from congrArg Fin.val h4), decide_eq_true (show ta J a c = ta J b c from congrArg Fin.val h5), decide_eq_true (show ta M b a = ta M c a from congrArg Fin.val h6), decide_eq_true (show ta J b a = ta J c a from congrArg Fin.val h7)] at this
    cases this
theorem dis_mod {n : Nat} {M J : List (List Nat)} (hL : La n M J) (hd : triB n (disP M J) = false) : triB n (modP M J) = false := by
  rw [triB_iff] at hd ⊢
  intro x y z hx hy hz
  cases hp : modP M J x y z
  · rfl
  · unfold modP at hp
    simp only [Bool.and_eq_true, decide_eq_true_eq] at hp
    have := hd z x y hz hx hy
    unfold disP at this
    rw [decide_eq_false_iff_not, ne_eq, Classical.not_not] at this
    refine absurd ?_ hp.2
    rw [hL.A.comm (hL.A.gl x y hx hy) hz, this, hL.A.comm hz hx, hp.1, hL.A.comm hz hy]
theorem dis_dia {n : Nat} {M J : List (List Nat)} (hL : La n M J) (hd : triB n (disP M J) = false) : triB n (diaP M J) = false := by
  rw [triB_iff] at hd ⊢
  intro a b c ha hb hc
  cases hp : diaP M J a b c
  · rfl
  · unfold diaP alkP at hp
    simp only [Bool.and_eq_true, decide_eq_true_eq] at hp
    obtain ⟨⟨⟨⟨h1, h2⟩, h3⟩, h4, h5⟩, h6, h7⟩ := hp
    have A := hL.A
    have e1 := hd a b c ha hb hc
    have e2 := hd b a c hb ha hc
    unfold disP at e1 e2
    rw [decide_eq_false_iff_not, ne_eq, Classical.not_not] at e1 e2
    rw [← h5, A.absorb ha hc, A.comm ha hb, A.comm ha hc, ← h6, A.dual.idem (A.fl b a hb ha)] at e1
    rw [h5, A.absorb hb hc, ← h4, A.comm ha hc, ← h6, A.dual.idem (A.fl b a hb ha)] at e2
    exact absurd (e1.trans e2.symm) h1
theorem dis_iff {n : Nat} {M J : List (List Nat)} (hL : La n M J) : triB n (disP M J) = (triB n (penP M J) || triB n (diaP M J)) := by
  rw [← mod_pen hL]
  cases h1 : triB n (disP M J)
  · rw [dis_mod hL h1, dis_dia hL h1]; rfl
  · cases h2 : triB n (modP M J) <;> cases h3 : triB n (diaP M J)
    · rw [dia_of_mod hL h2 h3] at h1; cases h1
    all_goals rfl
theorem dia_swap (M J : List (List Nat)) (x y z : Nat) : diaP J M x y z = diaP M J x y z := by
  unfold diaP alkP
  rw [Bool.and_comm (decide (ta J x z = ta J y z)), Bool.and_comm (decide (ta J y x = ta J z x))]
theorem dis_dual {n : Nat} {M J : List (List Nat)} (hL : La n M J) : triB n (disP J M) = triB n (disP M J) := by
  rw [dis_iff hL, dis_iff hL.dual, ← mod_pen hL, ← mod_pen hL.dual, mod_dual hL, show diaP J M = diaP M J from funext fun x => funext fun y => funext fun z => dia_swap M J x y z]
end Go.Proofs.YtdieojemgkfklaaDoor
