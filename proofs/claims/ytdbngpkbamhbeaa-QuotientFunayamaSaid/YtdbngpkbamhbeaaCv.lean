import Derived.Test.YtdbngpkbamhbeaaCo
import Derived.Test.YtdbngpkbamhbeaaCq
set_option linter.unusedSimpArgs false
set_option linter.unusedVariables false
set_option linter.unusedSectionVars false
set_option maxRecDepth 20000
namespace Go.Proofs.Ytdbngpkbamhbeaa
theorem nxI_nl {ns : List Nat} : ∀ k, k ≤ ns.length → nxI (nl ns) k = (nxC ns k : Nat)
  | 0, _ => rfl
  | k + 1, hk => by
    rw [nxI, nxI_nl k (by omega), nxC_s (by omega), nl_get]
    omega
theorem canQ {n : Nat} {M J : List (List Nat)} (hL : La n M J) {ns : List Nat} (hl : ns.length = n) (hc : Can ns) : clck n (tn M) (tn J) (nl ns) = 0 := by
  unfold clck
  rw [if_neg (by rw [hL.chkQ]; decide), if_neg (by rw [nl_len]; omega), if_pos]
  intro i hi
  rw [nl_len] at hi
  rw [nxI_nl i (by omega), nl_get]
  have := hc i hi
  omega
end Go.Proofs.Ytdbngpkbamhbeaa
set_option linter.unusedSimpArgs false
set_option linter.unusedVariables false
set_option linter.unusedSectionVars false
set_option maxRecDepth 20000
namespace Go.Proofs.Ytdbngpkbamhbeaa
/-- All that the first has together the second has. -/
def SubC (n : Nat) (c d : List Nat) : Prop := ∀ x, x < n → ∀ y, y < n → c.getD x 0 = c.getD y 0 → d.getD x 0 = d.getD y 0
/-- What two have in common. -/
def mtC (n : Nat) (c d : List Nat) : List Nat := renC ((List.range n).map fun x => c.getD x 0 * n + d.getD x 0) n
theorem two_one {n a b a' b' : Nat} (h1 : b < n) (h2 : b' < n) : a * n + b = a' * n + b' ↔ a = a' ∧ b = b' := by
  refine ⟨fun h => ?_, fun ⟨e1, e2⟩ => by rw [e1, e2]⟩
  have e1 := congrArg (· % n) h
  have e2 := congrArg (· / n) h
  have hn : 0 < n := by omega
  simp only [Nat.mul_comm _ n, Nat.mul_add_mod, Nat.mod_eq_of_lt h1, Nat.mod_eq_of_lt h2] at e1
  simp only [Nat.mul_comm _ n, Nat.mul_add_div hn, Nat.div_eq_of_lt h1, Nat.div_eq_of_lt h2, Nat.add_zero] at e2
  exact ⟨e2, e1⟩
theorem mtC_eq {n : Nat} {f g : Nat → Nat → Nat} {c d : List Nat} (hd : Cg n f g d) {x y : Nat} (hx : x < n) (hy : y < n) : (mtC n c d).getD x 0 = (mtC n c d).getD y 0 ↔ c.getD x 0 = c.getD y 0 ∧ d.getD x 0 = d.getD y 0 := by
  unfold mtC
  rw [renC_eq hx hy, getD_mapR 0 _ hx, getD_mapR 0 _ hy]
  exact two_one (can_lt hd.len hd.can hx) (can_lt hd.len hd.can hy)
/-- Step by step. -/
inductive TrC (n : Nat) (d e : List Nat) : Nat → Nat → Prop
  | refl (x : Nat) : TrC n d e x x
  | step {x y z : Nat} (h : TrC n d e x y) (hy : y < n) (hz : z < n) (h1 : d.getD y 0 = d.getD z 0 ∨ e.getD y 0 = e.getD z 0) : TrC n d e x z
theorem TrC.trans {n : Nat} {d e : List Nat} {x y z : Nat} (h1 : TrC n d e x y) (h2 : TrC n d e y z) : TrC n d e x z := by
  induction h2 with
  | refl => exact h1
  | step _ hy hz h ih => exact .step ih hy hz h
theorem TrC.symm {n : Nat} {d e : List Nat} {x y : Nat} (h : TrC n d e x y) : TrC n d e y x := by
  induction h with
  | refl => exact .refl _
  | step _ hy hz h ih => exact (TrC.step (.refl _) hz hy (h.imp Eq.symm Eq.symm)).trans ih
section
variable {n : Nat} {f g : Nat → Nat → Nat} (L : Lt n f g) (hn : n ≤ 40)
include L
theorem cpt2 {c : List Nat} (hc : Cpt n f g c) {x x' y y' : Nat} (hx : x < n) (hx' : x' < n) (hy : y < n) (hy' : y' < n) (h1 : c.getD x 0 = c.getD x' 0) (h2 : c.getD y 0 = c.getD y' 0) :
    c.getD (f x y) 0 = c.getD (f x' y') 0 ∧ c.getD (g x y) 0 = c.getD (g x' y') 0 := by
  have a := hc x hx x' hx' h1 y hy
  have b := hc y hy y' hy' h2 x' hx'
  rw [L.comm hy hx', L.comm hy' hx', L.dual.comm hy hx', L.dual.comm hy' hx'] at b
  exact ⟨a.1.trans b.1, a.2.trans b.2⟩
theorem mtC_cg {c d : List Nat} (hc : Cg n f g c) (hd : Cg n f g d) : Cg n f g (mtC n c d) :=
  ⟨renC_len _ _, renC_can, fun x hx y hy e z hz => by
    rw [mtC_eq hd hx hy] at e
    have a := hc.cpt x hx y hy e.1 z hz
    have b := hd.cpt x hx y hy e.2 z hz
    rw [mtC_eq hd (L.fl x z hx hz) (L.fl y z hy hz), mtC_eq hd (L.gl x z hx hz) (L.gl y z hy hz)]
    exact ⟨⟨a.1, b.1⟩, a.2, b.2⟩⟩
theorem TrC.cpt {d e : List Nat} (hd : Cpt n f g d) (he : Cpt n f g e) {x y z : Nat} (hx : x < n) (hz : z < n) (h : TrC n d e x y) : TrC n d e (f x z) (f y z) ∧ TrC n d e (g x z) (g y z) := by
  induction h with
  | refl => exact ⟨.refl _, .refl _⟩
  | @step u v h hu hv h1 ih =>
    have k1 := L.fl u z hu hz
    have k2 := L.fl v z hv hz
    have k3 := L.gl u z hu hz
    have k4 := L.gl v z hv hz
    rcases h1 with h1 | h1
    · have := hd u hu v hv h1 z hz
      exact ⟨.step ih.1 k1 k2 (.inl this.1), .step ih.2 k3 k4 (.inl this.2)⟩
    · have := he u hu v hv h1 z hz
      exact ⟨.step ih.1 k1 k2 (.inr this.1), .step ih.2 k3 k4 (.inr this.2)⟩
include hn in
/-- What the join has together is so step by step. -/
theorem jnc_tr {d e : List Nat} (hd : Cg n f g d) (he : Cg n f g e) {x y : Nat} (hx : x < n) (hy : y < n) (h : (jnC n f g d e).getD x 0 = (jnC n f g d e).getD y 0) : TrC n d e x y := by
  classical
  have hp : ∃ rp : Nat → Nat, (∀ u, u < n → TrC n d e u (rp u)) ∧ ∀ u v, TrC n d e u v → rp u = rp v := by
    refine ⟨fun u => ((List.range n).find? fun v => decide (TrC n d e u v)).getD 0, fun u hu => ?_, fun u v huv => ?_⟩
    · cases hf : (List.range n).find? fun v => decide (TrC n d e u v) with
      | none =>
        have := List.find?_eq_none.1 hf u (List.mem_range.2 hu)
        exact absurd (TrC.refl u) (by simpa using this)
      | some r =>
        have := List.find?_some hf
        dsimp only
        rw [hf]
        exact of_decide_eq_true this
    · have e : (fun w => decide (TrC n d e u w)) = fun w => decide (TrC n d e v w) := funext fun w => decide_eq_decide.2 ⟨fun h => huv.symm.trans h, fun h => huv.trans h⟩
      dsimp only
      rw [e]
  obtain ⟨rp, h1, h2⟩ := hp
  have hg : ∀ u, u < n → ((List.range n).map rp).getD u 0 = rp u := fun u hu => getD_mapR 0 _ hu
  have hb : ∀ u v, u < n → v < n → rp u = rp v → TrC n d e u v := fun u v hu hv q => (h1 u hu).trans (q ▸ (h1 v hv).symm)
  have hc : Cpt n f g ((List.range n).map rp) := fun u hu v hv q z hz => by
    rw [hg u hu, hg v hv] at q
    have := TrC.cpt L hd.cpt he.cpt hu hz (hb u v hu hv q)
    rw [hg _ (L.fl u z hu hz), hg _ (L.fl v z hv hz), hg _ (L.gl u z hu hz), hg _ (L.gl v z hv hz)]
    exact ⟨h2 _ _ this.1, h2 _ _ this.2⟩
  have k := jnc_least L hn hd.len he.len hc (fun u hu v hv q => by rw [hg u hu, hg v hv]; exact h2 _ _ (.step (.refl _) hu hv (.inl q))) (fun u hu v hv q => by rw [hg u hu, hg v hv]; exact h2 _ _ (.step (.refl _) hu hv (.inr q))) x hx y hy h
  rw [hg x hx, hg y hy] at k
  exact hb x y hx hy k
/-- The median. -/
def mdC (f g : Nat → Nat → Nat) (u x v : Nat) : Nat := g (g (f u x) (f x v)) (f u v)
theorem mdC_lt {u x v : Nat} (hu : u < n) (hx : x < n) (hv : v < n) : mdC f g u x v < n := L.gl _ _ (L.gl _ _ (L.fl _ _ hu hx) (L.fl _ _ hx hv)) (L.fl _ _ hu hv)
theorem mdC_cpt {c : List Nat} (hc : Cpt n f g c) {u x v u' x' v' : Nat} (hu : u < n) (hx : x < n) (hv : v < n) (hu' : u' < n) (hx' : x' < n) (hv' : v' < n) (e1 : c.getD u 0 = c.getD u' 0) (e2 : c.getD x 0 = c.getD x' 0) (e3 : c.getD v 0 = c.getD v' 0) :
    c.getD (mdC f g u x v) 0 = c.getD (mdC f g u' x' v') 0 := by
  have a1 := L.fl u x hu hx
  have a2 := L.fl x v hx hv
  have a3 := L.fl u v hu hv
  have b1 := L.fl u' x' hu' hx'
  have b2 := L.fl x' v' hx' hv'
  have b3 := L.fl u' v' hu' hv'
  unfold mdC
  exact (cpt2 L hc (L.gl _ _ a1 a2) (L.gl _ _ b1 b2) a3 b3 (cpt2 L hc a1 b1 a2 b2 (cpt2 L hc hu hu' hx hx' e1 e2).1 (cpt2 L hc hx hx' hv hv' e2 e3).1).2 (cpt2 L hc hu hu' hv hv' e1 e3).1).2
theorem gfx {x y : Nat} (hx : x < n) (hy : y < n) : g (f x y) x = x := by
  rw [L.dual.comm (L.fl x y hx hy) hx]; exact L.dual.absorb hx hy
theorem mdC_1 {u x : Nat} (hu : u < n) (hx : x < n) : mdC f g u x u = u := by
  unfold mdC
  rw [L.idem hu, L.comm hx hu, L.dual.idem (L.fl u x hu hx), gfx L hu hx]
theorem mdC_2 {x y : Nat} (hx : x < n) (hy : y < n) : mdC f g x x y = x := by
  unfold mdC
  rw [L.idem hx, L.dual.absorb hx hy, L.dual.absorb hx hy]
theorem mdC_3 {x y : Nat} (hx : x < n) (hy : y < n) : mdC f g x y y = y := by
  unfold mdC
  rw [L.idem hy, L.comm hx hy, gfx L hy hx, L.dual.absorb hy hx]
include hn in
theorem con_dist {c d e : List Nat} (hc : Cg n f g c) (hd : Cg n f g d) (he : Cg n f g e) : SubC n (mtC n c (jnC n f g d e)) (jnC n f g (mtC n c d) (mtC n c e)) := by
  intro x hx y hy h
  have hj := (jnc_lst L hn hd.len he.len).cg
  obtain ⟨h1, h2⟩ := (mtC_eq hj hx hy).1 h
  have ht := jnc_tr L hn hd he hx hy h2
  have m1 := mtC_cg L hc hd
  have m2 := mtC_cg L hc he
  obtain ⟨u1, u2⟩ := jnc_up L hn m1.len m2.len
  have key : ∀ z, TrC n d e x z → z < n → ∀ u v, u < n → v < n → c.getD u 0 = c.getD v 0 → (jnC n f g (mtC n c d) (mtC n c e)).getD (mdC f g u x v) 0 = (jnC n f g (mtC n c d) (mtC n c e)).getD (mdC f g u z v) 0 := by
    intro z hz
    induction hz with
    | refl => exact fun _ _ _ _ _ _ => rfl
    | @step a b _ ha hb hab ih =>
      intro _ u v hu hv huv
      rw [ih ha u v hu hv huv]
      have la := mdC_lt L hu ha hv
      have lb := mdC_lt L hu hb hv
      have ca : ∀ w, w < n → c.getD (mdC f g u w v) 0 = c.getD u 0 := fun w hw => by
        have := mdC_cpt L hc.cpt hu hw hv hu hw hu rfl rfl huv.symm
        rwa [mdC_1 L hu hw] at this
      rcases hab with q | q
      · exact u1 _ la _ lb ((mtC_eq hd la lb).2 ⟨(ca a ha).trans (ca b hb).symm, mdC_cpt L hd.cpt hu ha hv hu hb hv rfl q rfl⟩)
      · exact u2 _ la _ lb ((mtC_eq he la lb).2 ⟨(ca a ha).trans (ca b hb).symm, mdC_cpt L he.cpt hu ha hv hu hb hv rfl q rfl⟩)
  have := key y ht hy x y hx hy h1
  rwa [mdC_2 L hx hy, mdC_3 L hx hy] at this
end
end Go.Proofs.Ytdbngpkbamhbeaa
