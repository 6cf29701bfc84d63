import Derived.Test.YtgojkabjgagjcaaDoorHei
import Derived.Test.YtgojkabjgagjcaaDoorKu
set_option linter.unusedSimpArgs false
set_option linter.unusedVariables false
set_option linter.unusedSectionVars false
set_option maxRecDepth 20000
namespace Go.Proofs.YtgojkabjgagjcaaDoor
attribute [local irreducible] QOp aL aC qL
section
variable {n : Nat} {f g : Nat → Nat → Nat} (L : Lt n f g) (h0 : 0 < n) (hd : DisP n f g) {nv : Nat → Nat} (hnv : nv = fun x => impF f g (endE f n) x (endE f n) n)
include L h0
theorem lo_of {x : Nat} (hx : x < n) (h : f x (endE f n) = x) : x = endE f n := by
  have hlo := endE_lt L.fl n (Nat.le_refl n) h0
  have e := endE_least L h0 n (Nat.le_refl n) x hx
  rw [L.comm hx hlo, e] at h
  exact h.symm
include hnv
theorem nv_lt {x : Nat} : nv x < n := by rw [hnv]; exact impF_lt L h0 n (Nat.le_refl n)
include hd
theorem nv_iff {x y : Nat} (hx : x < n) (hy : y < n) : f x (nv y) = x ↔ f x y = endE f n := by
  have hlo := endE_lt L.fl n (Nat.le_refl n) h0
  have h := imp_res L h0 hd hx hy hlo
  have hz := L.fl x y hx hy
  rw [L.comm hz hlo, endE_least L h0 n (Nat.le_refl n) _ hz] at h
  rw [hnv]
  exact h.symm.trans eq_comm
theorem nv_zero {x : Nat} (hx : x < n) : f x (nv x) = endE f n := by
  have hv := nv_lt L h0 hnv (x := x)
  rw [L.comm hx hv]
  exact (nv_iff L h0 hd hnv hv hx).1 (L.idem hv)
theorem nv_dbl {x : Nat} (hx : x < n) : f x (nv (nv x)) = x := (nv_iff L h0 hd hnv hx (nv_lt L h0 hnv)).2 (nv_zero L h0 hd hnv hx)
theorem nv_anti {x y : Nat} (hx : x < n) (hy : y < n) (h : f x y = x) : f (nv y) (nv x) = nv y := by
  have hv := nv_lt L h0 hnv (x := y)
  have h2 := nv_lt L h0 hnv (x := nv y)
  refine (nv_iff L h0 hd hnv hv hx).2 ?_
  rw [L.comm hv hx]
  exact (nv_iff L h0 hd hnv hx hv).1 (L.trans hx hy h2 h (nv_dbl L h0 hd hnv hy))
theorem reg_meet {x y : Nat} (hx : x < n) (hy : y < n) (e1 : nv (nv x) = x) (e2 : nv (nv y) = y) : nv (nv (f x y)) = f x y := by
  have hz := L.fl x y hx hy
  have v := fun x => nv_lt L h0 hnv (x := x)
  refine (L.anti hz (v _) (nv_dbl L h0 hd hnv hz) (L.greatest hx hy (v _) ?_ ?_)).symm
  · have := nv_anti L h0 hd hnv (v _) (v _) (nv_anti L h0 hd hnv hz hx (L.below hx hy))
    rwa [e1] at this
  · have := nv_anti L h0 hd hnv (v _) (v _) (nv_anti L h0 hd hnv hz hy (L.below' hx hy))
    rwa [e2] at this
theorem reg_imp {x y : Nat} (hx : x < n) (hy : y < n) (e2 : nv (nv y) = y) : nv (nv (impF f g (endE f n) x y n)) = impF f g (endE f n) x y n := by
  have ht := impF_lt L h0 (x := x) (y := y) n (Nat.le_refl n)
  have hlo := endE_lt L.fl n (Nat.le_refl n) h0
  have hr := fun w hw => imp_res L h0 hd (w := w) (x := x) (y := y) hw hx hy
  generalize impF f g (endE f n) x y n = t at *
  have v := fun x => nv_lt L h0 hnv (x := x)
  refine (L.anti ht (v _) (nv_dbl L h0 hd hnv ht) ((hr _ (v _)).1 ?_)).symm
  have hvy := v y
  have hu := L.fl x (nv y) hx hvy
  have hut := L.fl _ t hu ht
  have htx := L.fl t x ht hx
  have h1 : f (f t x) y = f t x := (hr t ht).2 (L.idem ht)
  have h2 : f (f (f x (nv y)) t) (f t x) = f (f x (nv y)) t := L.greatest ht hx hut (L.below' hu ht) (L.trans hut hu hx (L.below hu ht) (L.below hx hvy))
  have h3 : f (f (f x (nv y)) t) y = f (f x (nv y)) t := L.trans hut htx hy h2 h1
  have h4 : f (f (f x (nv y)) t) (nv y) = f (f x (nv y)) t := L.trans hut hu hvy (L.below hu ht) (L.below' hx hvy)
  have h5 : f (f x (nv y)) t = endE f n := lo_of L h0 hut (by have := L.greatest hy hvy hut h3 h4; rwa [nv_zero L h0 hd hnv hy] at this)
  have h6 : f (f x (nv y)) (nv t) = f x (nv y) := (nv_iff L h0 hd hnv hu ht).2 h5
  have h7 : f (f x (nv y)) (nv (nv (nv t))) = f x (nv y) := L.trans hu (v t) (v _) h6 (nv_dbl L h0 hd hnv (v t))
  have h8 : f (f x (nv y)) (nv (nv t)) = endE f n := (nv_iff L h0 hd hnv hu (v _)).1 h7
  have hvt := v (nv t)
  have h9 : f (f (nv (nv t)) x) (nv y) = endE f n := by rw [← L.assoc hvt hx hvy, L.comm hvt hu]; exact h8
  have := (nv_iff L h0 hd hnv (L.fl _ x hvt hx) hvy).2 h9
  rwa [e2] at this
theorem reg_oth {x : Nat} (hx : x < n) (h : ∀ x, x < n → nv (nv x) = x) : f x (nv x) = endE f n ∧ g x (nv x) = endE g n := by
  have v := fun x => nv_lt L h0 hnv (x := x)
  refine ⟨nv_zero L h0 hd hnv hx, ?_⟩
  have hlo := endE_lt L.fl n (Nat.le_refl n) h0
  have hhi := endE_lt L.gl n (Nat.le_refl n) h0
  have hvx := v x
  have hj := L.gl x (nv x) hx hvx
  have a1 := nv_anti L h0 hd hnv hx hj (L.above hx hvx)
  have a2 := nv_anti L h0 hd hnv hvx hj (L.above' hx hvx)
  rw [h x hx] at a2
  have a3 : nv (g x (nv x)) = endE f n := lo_of L h0 (v _) (by have := L.greatest hx hvx (v _) a2 a1; rwa [nv_zero L h0 hd hnv hx] at this)
  have a4 := h _ hj
  rw [a3] at a4
  have b1 : f (endE g n) (nv (endE f n)) = endE g n := (nv_iff L h0 hd hnv hhi hlo).2 (by rw [L.comm hhi hlo]; exact endE_least L h0 n (Nat.le_refl n) _ hhi)
  rw [a4] at b1
  have b2 := endE_least L.dual h0 n (Nat.le_refl n) _ hj
  rw [L.dual.comm hhi hj] at b2
  exact L.anti hj hhi ((L.up hj hhi).2 b2) b1
theorem oth_nv {x y : Nat} (hx : x < n) (hy : y < n) (h1 : f x y = endE f n) (h2 : g x y = endE g n) : nv x = y := by
  have hvx := nv_lt L h0 hnv (x := x)
  have hlo := endE_lt L.fl n (Nat.le_refl n) h0
  have hhi := endE_lt L.gl n (Nat.le_refl n) h0
  refine L.anti hvx hy ?_ ((nv_iff L h0 hd hnv hy hx).2 (by rw [L.comm hy hx]; exact h1))
  have e := hd (nv x) x y hvx hx hy
  have b2 := endE_least L.dual h0 n (Nat.le_refl n) _ hvx
  rw [L.dual.comm hhi hvx] at b2
  rw [h2, (L.up hvx hhi).2 b2, L.comm hvx hx, nv_zero L h0 hd hnv hx] at e
  have hq := L.fl _ _ hvx hy
  rw [(L.up hlo hq).1 (endE_least L h0 n (Nat.le_refl n) _ hq)] at e
  exact e.symm
theorem reg_all : (∀ x, x < n → nv (nv x) = x) ↔ ∀ x, x < n → ∃ y, y < n ∧ f x y = endE f n ∧ g x y = endE g n := by
  refine ⟨fun h x hx => ⟨nv x, nv_lt L h0 hnv, reg_oth L h0 hd hnv hx h⟩, fun h x hx => ?_⟩
  obtain ⟨y, hy, h1, h2⟩ := h x hx
  rw [oth_nv L h0 hd hnv hx hy h1 h2]
  exact oth_nv L h0 hd hnv hy hx (by rw [L.comm hy hx]; exact h1) (by rw [L.dual.comm hy hx]; exact h2)
end
/-! The same of the program's words. -/
section
variable {n : Nat} {M J : List (List Nat)} (hL : La n M J) (hD : DisP n (ta M) (ta J))
include hL hD
theorem rgT_mem {x : Nat} : x ∈ rgT n M J n ↔ x < n ∧ ngV n M J (ngV n M J x) = x := by
  unfold rgT
  rw [List.mem_filter, List.mem_range, decide_eq_true_eq]
theorem rg_meet {x y : Nat} (hx : x ∈ rgT n M J n) (hy : y ∈ rgT n M J n) : ta M x y ∈ rgT n M J n := by
  rw [rgT_mem hL hD] at *
  exact ⟨hL.A.fl _ _ hx.1 hy.1, reg_meet hL.A hL.n1 hD (nv := ngV n M J) rfl hx.1 hy.1 hx.2 hy.2⟩
theorem rg_imp {x y : Nat} (hx : x ∈ rgT n M J n) (hy : y ∈ rgT n M J n) : impV n M J x y ∈ rgT n M J n := by
  rw [rgT_mem hL hD] at *
  exact ⟨impF_lt hL.A hL.n1 n (Nat.le_refl n), reg_imp hL.A hL.n1 hD (nv := ngV n M J) rfl hx.1 hy.1 hy.2⟩
/-- Each of the first so many has just one other. -/
def oneB (n : Nat) (M J : List (List Nat)) (k : Nat) : Bool := (List.range k).all fun x => decide ((othN n M J x).length = 1)
omit hL hD in
theorem oneB_succ (n : Nat) (M J : List (List Nat)) (k : Nat) : oneB n M J (k + 1) = (oneB n M J k && decide ((othN n M J k).length = 1)) := by
  unfold oneB
  rw [List.range_succ, List.all_append]
  simp
theorem oneB_is : decide ((rgT n M J n).length = n) = oneB n M J n := by
  have mem : ∀ {x y : Nat}, y ∈ othN n M J x ↔ y < n ∧ ta M x y = endE (ta M) n ∧ ta J x y = endE (ta J) n := by
    intro x y
    unfold othN othT othP
    rw [List.mem_filter, List.mem_range, Bool.and_eq_true, decide_eq_true_eq, decide_eq_true_eq]
  have h1 : (rgT n M J n).length = n ↔ ∀ x, x < n → ngV n M J (ngV n M J x) = x := by
    constructor
    · intro h x hx
      have h2 : (rgT n M J n).length = (List.range n).length := by rw [h, List.length_range]
      unfold rgT at h2
      rw [List.length_filter_eq_length_iff] at h2
      exact of_decide_eq_true (h2 x (List.mem_range.2 hx))
    · intro h
      have : rgT n M J n = List.range n := List.filter_eq_self.2 fun x hx => decide_eq_true (h x (List.mem_range.1 hx))
      rw [this, List.length_range]
  have h2 : oneB n M J n = true ↔ ∀ x, x < n → ∃ y, y < n ∧ ta M x y = endE (ta M) n ∧ ta J x y = endE (ta J) n := by
    unfold oneB
    rw [List.all_eq_true]
    constructor
    · intro h x hx
      have := of_decide_eq_true (h x (List.mem_range.2 hx))
      obtain ⟨y, hy⟩ := List.length_eq_one_iff.1 this
      exact ⟨y, mem.1 (by rw [hy]; exact List.mem_singleton.2 rfl)⟩
    · intro h x hx
      have hx := List.mem_range.1 hx
      obtain ⟨y, hy⟩ := h x hx
      have hm := mem.2 hy
      have hu : ∀ z, z ∈ othN n M J x → z = y := fun z hz => by
        have hz := mem.1 hz
        rw [← oth_nv hL.A hL.n1 hD (nv := ngV n M J) rfl hx hz.1 hz.2.1 hz.2.2]
        exact oth_nv hL.A hL.n1 hD (nv := ngV n M J) rfl hx hy.1 hy.2.1 hy.2.2
      have hnd : (othN n M J x).Nodup := by unfold othN othT; exact List.nodup_range.sublist List.filter_sublist
      refine decide_eq_true ?_
      match ho : othN n M J x, hm, hu, hnd with
      | [], hm, _, _ => cases hm
      | [_], _, _, _ => rfl
      | a :: b :: r, _, hu, hnd =>
        have ha := hu a (by simp)
        have hb := hu b (by simp)
        rw [ha, hb] at hnd
        simp at hnd
  have h3 := reg_all hL.A hL.n1 hD (nv := ngV n M J) rfl
  rw [← h1, ← h2] at h3
  rw [Bool.eq_iff_iff, decide_eq_true_eq]
  exact h3
end
end Go.Proofs.YtgojkabjgagjcaaDoor
