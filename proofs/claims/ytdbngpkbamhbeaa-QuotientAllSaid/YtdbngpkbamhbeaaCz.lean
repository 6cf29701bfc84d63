import Derived.Test.YtdbngpkbamhbeaaCw
import Derived.Test.YtdbngpkbamhbeaaCe
set_option linter.unusedSimpArgs false
set_option linter.unusedVariables false
set_option linter.unusedSectionVars false
set_option maxRecDepth 20000
namespace Go.Proofs.Ytdbngpkbamhbeaa
section
variable {n : Nat} {f g : Nat → Nat → Nat} (L : Lt n f g) (hn : n ≤ 40)
include L
/-- What has two together has their meet and join together, and the other way round. -/
theorem pair_mj {c : List Nat} (hc : Cpt n f g c) {x y : Nat} (hx : x < n) (hy : y < n) : c.getD (f x y) 0 = c.getD (g x y) 0 ↔ c.getD x 0 = c.getD y 0 := by
  have h1 := L.fl x y hx hy
  have h2 := L.gl x y hx hy
  constructor
  · intro h
    have a := (hc _ h1 _ h2 h x hx).2
    have b := (hc _ h1 _ h2 h y hy).2
    have e1 : g (f x y) x = x := by rw [L.dual.comm h1 hx]; exact L.dual.absorb hx hy
    have e2 : g (f x y) y = y := by rw [L.dual.comm h1 hy, L.comm hx hy]; exact L.dual.absorb hy hx
    have e3 : g (g x y) x = g x y := by rw [L.dual.comm h2 hx, L.dual.assoc hx hx hy, L.dual.idem hx]
    have e4 : g (g x y) y = g x y := by rw [← L.dual.assoc hx hy hy, L.dual.idem hy]
    rw [e1, e3] at a
    rw [e2, e4] at b
    exact a.trans b.symm
  · intro h
    have a := hc x hx y hy h y hy
    rw [L.idem hy, L.dual.idem hy] at a
    exact a.1.trans a.2.symm
theorem cmp_mj {x y : Nat} (hx : x < n) (hy : y < n) : f (f x y) (g x y) = f x y := by
  have h1 := L.fl x y hx hy
  have h2 := L.gl x y hx hy
  rw [L.comm hx hy, ← L.assoc hy hx h2, L.absorb hx hy, ]
include hn in
theorem bfs_full {out : List (List Nat)} (h0 : List.range n ∈ out) (hcg : ∀ c ∈ out, Cg n f g c) (hcl : ∀ c ∈ out, ∀ x, x < n → ∀ y, y < x → c.getD x 0 ≠ c.getD y 0 → (f x y = x ∨ f x y = y) → ∃ d, d ∈ out ∧ Lst n f g (RC n c x y) d) {c : List Nat} (hc : Cg n f g c) : c ∈ out := by
  have hl0 : Lst n f g (fun _ _ => False) (List.range n) := ⟨cg_range, fun x y h => h.elim, fun d _ _ x hx y hy e => by rw [range_getD hx, range_getD hy] at e; rw [e]⟩
  have e0 : lsC n f g [] = List.range n := (no_lst L hn).one hl0 (fun x y h => by cases h) (fun x y h => h.elim)
  refine con_full L hn (e0 ▸ h0) (fun d hd => (hcg d hd).len) (fun d hd x hx y hy => ?_) hc
  have hdg := hcg d hd
  have hy' : y < n := by omega
  have th := th_lst L hn hx hy'
  have hj := jnc_lst L hn hdg.len th.cg.len
  obtain ⟨u1, u2⟩ := jnc_up L hn hdg.len th.cg.len
  have hxy := u2 x hx y hy' (th.has x y (by simp))
  have h1 := L.fl x y hx hy'
  have h2 := L.gl x y hx hy'
  have least : ∀ e : List Nat, Cpt n f g e → SubC n d e → e.getD x 0 = e.getD y 0 → SubC n (jnC n f g d (thQ n f g x y)) e := fun e he hs hq => jnc_least L hn hdg.len th.cg.len he hs (th.least e he fun a b hab => by
    rw [List.mem_singleton, Prod.mk.injEq] at hab
    rw [hab.1, hab.2]; exact hq)
  by_cases hq : d.getD x 0 = d.getD y 0
  · have := con_anti hdg hj.cg u1 (least d hdg.cpt (fun _ _ _ _ h => h) hq)
    rwa [← this]
  -- the pair of the meet and the join, in order
  have hne : d.getD (f x y) 0 ≠ d.getD (g x y) 0 := fun h => hq ((pair_mj L hdg.cpt hx hy').1 h)
  have key : ∀ p q, p < n → q < p → ((p = f x y ∧ q = g x y) ∨ (p = g x y ∧ q = f x y)) → jnC n f g d (thQ n f g x y) ∈ out := fun p q hp hqp hpq => by
    have hq' : q < n := by omega
    have ep : ∀ e : List Nat, e.getD p 0 = e.getD q 0 ↔ e.getD (f x y) 0 = e.getD (g x y) 0 := fun e => by
      rcases hpq with ⟨rfl, rfl⟩ | ⟨rfl, rfl⟩
      · exact Iff.rfl
      · exact eq_comm
    have hcmp : f p q = p ∨ f p q = q := by
      have := cmp_mj L hx hy'
      rcases hpq with ⟨rfl, rfl⟩ | ⟨rfl, rfl⟩
      · exact .inl this
      · exact .inr ((L.comm h2 h1).trans this)
    obtain ⟨e, he, hE⟩ := hcl d hd p hp q hqp (fun h => hne ((ep d).1 h)) hcmp
    have hde : SubC n d e := fun a ha b hb h => hE.has a b (.inl ⟨ha, hb, h⟩)
    have hpqe : e.getD p 0 = e.getD q 0 := hE.has p q (.inr ⟨rfl, rfl⟩)
    have s1 := least e hE.cg.cpt hde ((pair_mj L hE.cg.cpt hx hy').1 ((ep e).1 hpqe))
    have s2 : SubC n e (jnC n f g d (thQ n f g x y)) := hE.least _ hj.cg.cpt fun a b hab => by
      rcases hab with ⟨ha, hb, h⟩ | ⟨rfl, rfl⟩
      · exact u1 a ha b hb h
      · exact (ep _).2 ((pair_mj L hj.cg.cpt hx hy').2 hxy)
    rw [con_anti hj.cg hE.cg s1 s2]; exact he
  rcases Nat.lt_trichotomy (f x y) (g x y) with q | q | q
  · exact key _ _ h2 q (.inr ⟨rfl, rfl⟩)
  · exact absurd (by rw [q]) hne
  · exact key _ _ h1 q (.inl ⟨rfl, rfl⟩)
end
end Go.Proofs.Ytdbngpkbamhbeaa
