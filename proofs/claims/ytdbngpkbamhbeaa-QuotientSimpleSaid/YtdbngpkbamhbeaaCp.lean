import Derived.Test.YtdbngpkbamhbeaaCl
set_option linter.unusedSimpArgs false
set_option linter.unusedVariables false
set_option linter.unusedSectionVars false
set_option maxRecDepth 20000
namespace Go.Proofs.Ytdbngpkbamhbeaa
theorem getD_mapR {α : Type} (d : α) (h : Nat → α) {n i : Nat} (hi : i < n) : ((List.range n).map h).getD i d = h i := by
  rw [List.getD_eq_getElem?_getD, List.getElem?_map, List.getElem?_range hi]; rfl
theorem nxC_range (n : Nat) : ∀ k, k ≤ n → nxC (List.range n) k = k
  | 0, _ => rfl
  | k + 1, h => by
    rw [nxC_s (by rw [List.length_range]; omega), nxC_range n k (by omega), range_getD (by omega)]; omega
theorem cg_range {n : Nat} {f g : Nat → Nat → Nat} : Cg n f g (List.range n) :=
  ⟨List.length_range, fun i hi => by
    rw [List.length_range] at hi
    rw [nxC_range n i (by omega), range_getD hi]; exact Nat.le_refl _, fun x hx y hy e z hz => by
    rw [range_getD hx, range_getD hy] at e; rw [e]; exact ⟨rfl, rfl⟩⟩
theorem rep_getD (n i : Nat) : (List.replicate n 0).getD i 0 = 0 := by
  rw [List.getD_eq_getElem?_getD, List.getElem?_replicate]; split <;> rfl
theorem cg_zero {n : Nat} {f g : Nat → Nat → Nat} : Cg n f g (List.replicate n 0) :=
  ⟨List.length_replicate, fun i hi => by rw [rep_getD]; exact Nat.zero_le _, fun x hx y hy e z hz => by simp only [rep_getD]; exact ⟨trivial, trivial⟩⟩
theorem cg_inj {n : Nat} {f g : Nat → Nat → Nat} {c : List Nat} (h : Cg n f g c) (hi : ∀ x, x < n → ∀ y, y < n → c.getD x 0 = c.getD y 0 → x = y) : c = List.range n :=
  can_one h.len List.length_range h.can (cg_range (f := f) (g := g)).can fun x hx y hy => by
    rw [range_getD hx, range_getD hy]
    exact ⟨hi x hx y hy, fun e => by rw [e]⟩
theorem cg_tot {n : Nat} {f g : Nat → Nat → Nat} {c : List Nat} (h : Cg n f g c) (hi : ∀ x, x < n → ∀ y, y < n → c.getD x 0 = c.getD y 0) : c = List.replicate n 0 :=
  can_one h.len List.length_replicate h.can (cg_zero (f := f) (g := g)).can fun x hx y hy => by
    rw [rep_getD, rep_getD]
    exact ⟨fun _ => rfl, fun _ => hi x hx y hy⟩
theorem con_sim1 (f g : Nat → Nat → Nat) : (conL 1 f g).length ≤ 1 :=
  nd_subC _ [[0]] (conL_nd 1 f g) fun c hc => by
    have h := conL_mem.1 hc
    rw [List.mem_singleton]
    exact cg_tot h fun x hx y hy => by rw [show x = y by omega]
theorem con_sim2 (f g : Nat → Nat → Nat) : (conL 2 f g).length = 2 := by
  have h1 : [List.replicate 2 0, List.range 2].length ≤ (conL 2 f g).length := con_more (by decide) fun c hc => by
    rcases List.mem_cons.1 hc with rfl | hc
    · exact cg_zero
    · rw [List.mem_singleton] at hc; subst hc; exact cg_range
  have h2 : (conL 2 f g).length ≤ [List.replicate 2 0, List.range 2].length := nd_subC _ _ (conL_nd 2 f g) fun c hc => by
    have h := conL_mem.1 hc
    rw [List.mem_cons, List.mem_singleton]
    by_cases e : c.getD 0 0 = c.getD 1 0
    · refine .inl (cg_tot h fun x hx y hy => ?_)
      rcases (by omega : x = 0 ∨ x = 1) with rfl | rfl <;> rcases (by omega : y = 0 ∨ y = 1) with rfl | rfl <;> first | rfl | exact e | exact e.symm
    · refine .inr (cg_inj h fun x hx y hy e2 => ?_)
      rcases (by omega : x = 0 ∨ x = 1) with rfl | rfl <;> rcases (by omega : y = 0 ∨ y = 1) with rfl | rfl <;> first | rfl | exact absurd e2 e | exact absurd e2.symm e
  exact Nat.le_antisymm h2 h1
section
variable {n : Nat} {f g : Nat → Nat → Nat} (L : Lt n f g) (hd : ∀ x y z, x < n → y < n → z < n → f x (g y z) = g (f x y) (f x z))
include L hd
/-- Elements that meet another one in the same. -/
theorem cut_cpt {a : Nat} (ha : a < n) : Cpt n f g ((List.range n).map fun x => f x a) := by
  intro x hx y hy e z hz
  have h1 := L.fl x z hx hz
  have h2 := L.fl y z hy hz
  have h3 := L.gl x z hx hz
  have h4 := L.gl y z hy hz
  rw [getD_mapR 0 _ hx, getD_mapR 0 _ hy] at e
  rw [getD_mapR 0 _ h1, getD_mapR 0 _ h2, getD_mapR 0 _ h3, getD_mapR 0 _ h4]
  constructor
  · rw [← L.assoc hx hz ha, ← L.assoc hy hz ha, L.comm hz ha, L.assoc hx ha hz, L.assoc hy ha hz, e]
  · rw [L.comm h3 ha, L.comm h4 ha, hd a x z ha hx hz, hd a y z ha hy hz, L.comm ha hx, L.comm ha hy, e]
theorem con_simD (hn : 1 ≤ n) (h : (conL n f g).length = 2) : n = 2 := by
  have n1 : n ≠ 1 := fun e => by subst e; have := con_sim1 f g; omega
  have hne : List.range n ≠ List.replicate n 0 := fun e => by
    have := congrArg (fun l => l.getD 1 0) e
    rw [range_getD (by omega), rep_getD] at this
    cases this
  have two : ∀ c, Cg n f g c → c = List.range n ∨ c = List.replicate n 0 := fun c hc => by
    by_cases e1 : c = List.range n
    · exact .inl e1
    by_cases e2 : c = List.replicate n 0
    · exact .inr e2
    exfalso
    have := con_more (n := n) (f := f) (g := g) (out := [c, List.range n, List.replicate n 0]) (by simp [e1, e2, hne]) fun d hd => by
      rcases List.mem_cons.1 hd with rfl | hd
      · exact hc
      rcases List.mem_cons.1 hd with rfl | hd
      · exact cg_range
      rw [List.mem_singleton] at hd; subst hd; exact cg_zero
    rw [h] at this
    simp at this
  have each : ∀ a, a < n → (∀ x, x < n → f x a = x) ∨ (∀ x, x < n → f x a = a) := fun a ha => by
    have hc := cut_cpt L hd ha
    generalize hp : (List.range n).map (fun x => f x a) = p at hc
    have hg : ∀ x, x < n → p.getD x 0 = f x a := fun x hx => by rw [← hp]; exact getD_mapR 0 _ hx
    have hr : Cg n f g (renC p n) := ⟨renC_len p n, renC_can, fun x hx y hy e z hz => by
      have := hc x hx y hy ((renC_eq hx hy).1 e) z hz
      exact ⟨(renC_eq (L.fl x z hx hz) (L.fl y z hy hz)).2 this.1, (renC_eq (L.gl x z hx hz) (L.gl y z hy hz)).2 this.2⟩⟩
    rcases two _ hr with e | e
    · refine .inl fun x hx => ?_
      have hf := L.fl x a hx ha
      have h1 : p.getD (f x a) 0 = p.getD x 0 := by
        rw [hg _ hf, hg _ hx, ← L.assoc hx ha ha, L.idem ha]
      have h2 := (renC_eq hf hx).2 h1
      rwa [e, range_getD hf, range_getD hx] at h2
    · refine .inr fun x hx => ?_
      have h2 : p.getD x 0 = p.getD a 0 := (renC_eq hx ha).1 (by rw [e, rep_getD, rep_getD])
      rwa [hg x hx, hg a ha, L.idem ha] at h2
  have top : ∀ a b, a < n → b < n → (∀ x, x < n → f x a = x) → (∀ x, x < n → f x b = x) → a = b := fun a b ha hb h1 h2 => by
    rw [← h1 b hb, L.comm hb ha, h2 a ha]
  have bot : ∀ a b, a < n → b < n → (∀ x, x < n → f x a = a) → (∀ x, x < n → f x b = b) → a = b := fun a b ha hb h1 h2 => by
    rw [← h1 b hb, L.comm hb ha, h2 a ha]
  by_cases h3 : 3 ≤ n
  · exfalso
    have t01 := top 0 1 (by omega) (by omega)
    have t02 := top 0 2 (by omega) (by omega)
    have t12 := top 1 2 (by omega) (by omega)
    have b01 := bot 0 1 (by omega) (by omega)
    have b02 := bot 0 2 (by omega) (by omega)
    have b12 := bot 1 2 (by omega) (by omega)
    rcases each 0 (by omega) with h0 | h0 <;> rcases each 1 (by omega) with h1 | h1 <;> rcases each 2 (by omega) with h2 | h2
    · exact absurd (t01 h0 h1) (by decide)
    · exact absurd (t01 h0 h1) (by decide)
    · exact absurd (t02 h0 h2) (by decide)
    · exact absurd (b12 h1 h2) (by decide)
    · exact absurd (t12 h1 h2) (by decide)
    · exact absurd (b02 h0 h2) (by decide)
    · exact absurd (b01 h0 h1) (by decide)
    · exact absurd (b01 h0 h1) (by decide)
  · omega
end
end Go.Proofs.Ytdbngpkbamhbeaa
