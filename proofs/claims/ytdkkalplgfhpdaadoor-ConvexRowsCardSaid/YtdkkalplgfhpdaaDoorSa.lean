import Derived.Test.YtdkkalplgfhpdaaDoorKe
import Derived.Test.YtdkkalplgfhpdaaDoorEngZp
set_option linter.unusedSimpArgs false
set_option linter.unusedVariables false
set_option linter.unusedSectionVars false
set_option maxRecDepth 20000
namespace Go.Proofs.YtdkkalplgfhpdaaDoor
attribute [local irreducible] QOp aL aC qL
theorem cp_one {p q : Nat → Bool} {s : Nat} : ∀ {N : Nat}, s < N → (∀ t, t < N → t ≠ s → p t = q t) → p s = false → q s = true → (List.range N).countP p + 1 = (List.range N).countP q
  | 0, h, _, _, _ => absurd h (Nat.not_lt_zero _)
  | N + 1, h, he, hp, hq => by
    rw [List.range_succ, List.countP_append, List.countP_append]
    by_cases e : s = N
    · subst e
      have : (List.range s).countP p = (List.range s).countP q := List.countP_congr fun t ht => by
        rw [List.mem_range] at ht
        rw [he t (by omega) (by omega)]
      simp [this, hp, hq]
    · have := cp_one (N := N) (by omega) (fun t ht hn => he t (by omega) hn) hp hq
      have e2 := he N (by omega) (Ne.symm e)
      simp only [List.countP_singleton, e2]
      omega
/-! Going about: closures and rests, each set once. -/
def hasM (m : List (Int × Int)) (s : Nat) : Bool := (mget m (s : Int)).isSome
def unm (N : Nat) (m : List (Int × Int)) : Nat := (List.range N).countP fun s => !hasM m s
inductive Rch (f g : Nat → Nat) (s : Nat) : Nat → Prop where
  | self : Rch f g s s
  | one (t : Nat) (h : Rch f g s t) : Rch f g s (f t)
  | two (t : Nat) (h : Rch f g s t) : Rch f g s (g t)
theorem Rch.trans {f g : Nat → Nat} {s t u : Nat} (h : Rch f g s t) (k : Rch f g t u) : Rch f g s u := by
  induction k with
  | self => exact h
  | one t _ ih => exact .one _ ih
  | two t _ ih => exact .two _ ih
structure Tv (N : Nat) (m : List (Int × Int)) : Prop where
  nd : (m.map (·.1)).Nodup
  ks : ∀ k, (mget m k).isSome = true → ∃ s : Nat, s < N ∧ k = s
  vs : ∀ k v, mget m k = some v → 1 ≤ v
theorem nd_put {m : List (Int × Int)} (h : (m.map (·.1)).Nodup) (k v : Int) : ((mput m k v).map (·.1)).Nodup := by
  cases hq : mget m k with
  | some u =>
    have e : (mput m k v).map (·.1) = m.map (·.1) := by
      rw [mput_some v hq, List.map_set]
      obtain ⟨h1, h2⟩ := midx_lt hq
      refine List.ext_getElem? fun i => ?_
      rw [List.getElem?_set]
      split
      · rename_i e
        subst e
        rw [if_pos (by rw [List.length_map]; exact h1), List.getElem?_map, h2]; rfl
      · rfl
    rw [e]; exact h
  | none =>
    rw [mput_none v hq, List.map_append, List.nodup_append]
    refine ⟨h, by simp, fun a ha b hb => ?_⟩
    simp only [List.map_cons, List.map_nil, List.mem_singleton] at hb
    subst hb
    intro e
    subst e
    have := mget_iff.2 ha
    rw [hq] at this; cases this
theorem Tv.put {N : Nat} {m : List (Int × Int)} (h : Tv N m) {s : Nat} (hs : s < N) {v : Int} (hv : 1 ≤ v) : Tv N (mput m s v) := by
  refine ⟨nd_put h.nd _ _, fun k hk => ?_, fun k u hu => ?_⟩
  · rw [mget_put] at hk
    by_cases e : k = s
    · exact ⟨s, hs, e⟩
    · rw [if_neg e] at hk; exact h.ks k hk
  · rw [mget_put] at hu
    by_cases e : k = s
    · rw [if_pos e] at hu; cases hu; exact hv
    · rw [if_neg e] at hu; exact h.vs k u hu
theorem Tv.nil (N : Nat) : Tv N [] := ⟨List.nodup_nil, fun k h => (by cases h), fun k v h => (by cases h)⟩
theorem Tv.new {N : Nat} {m : List (Int × Int)} (h : Tv N m) (s : Nat) : 0 ≤ mgd m s ∧ (hasM m s = decide (1 < mgd m s + 1)) := by
  unfold hasM mgd
  cases hq : mget m (s : Int) with
  | none => simp
  | some v =>
    have := h.vs _ _ hq
    simp
    omega
def tvF (f g : Nat → Nat) : Nat → List (Int × Int) → Nat → List (Int × Int)
  | 0, m, _ => m
  | k + 1, m, s => if 1 < mgd m s + 1 then mput m s (mgd m s + 1) else tvF f g k (tvF f g k (mput m s (mgd m s + 1)) (f s)) (g s)
structure TvO (N : Nat) (f g : Nat → Nat) (m : List (Int × Int)) (s : Nat) (m' : List (Int × Int)) : Prop where
  tv : Tv N m'
  sub : ∀ t, hasM m t = true → hasM m' t = true
  own : hasM m' s = true
  new : ∀ t, hasM m' t = true → hasM m t = true ∨ Rch f g s t ∧ hasM m' (f t) = true ∧ hasM m' (g t) = true
  un : unm N m' ≤ unm N m
  cnt : ∀ c : Int, (∀ t : Nat, mgd m t + 2 * unm N m ≤ c) → ∀ t : Nat, mgd m' t + 2 * unm N m' ≤ c + 1
def tvN (f g : Nat → Nat) (N s : Nat) : List (Int × Int) := tvF f g (N + 1) [] s
theorem Rch.lt {N : Nat} {f g : Nat → Nat} (hf : ∀ s, s < N → f s < N) (hg : ∀ s, s < N → g s < N) {s t : Nat} (hs : s < N) (h : Rch f g s t) : t < N := by
  induction h with
  | self => exact hs
  | one t _ ih => exact hf t ih
  | two t _ ih => exact hg t ih
/-! The list of what comes, one behind the other. -/
def adl (l : List Nat) (x : Nat) : List Nat := if x ∈ l then l else l ++ [x]
structure Bf (N : Nat) (f g : Nat → Nat) (s : Nat) (l : List Nat) (i : Nat) : Prop where
  nd : l.Nodup
  rc : ∀ t, t ∈ l → Rch f g s t
  ne : s ∈ l
  le : i ≤ l.length
  cl : ∀ j, j < i → f (l.getD j 0) ∈ l ∧ g (l.getD j 0) ∈ l
theorem Bf.start (N : Nat) (f g : Nat → Nat) (s : Nat) : Bf N f g s [s] 0 :=
  ⟨by simp, fun t ht => by rw [List.mem_singleton] at ht; subst ht; exact .self, List.mem_singleton.2 rfl, Nat.zero_le _, fun j h => absurd h (Nat.not_lt_zero _)⟩
theorem adl_mem (l : List Nat) (x t : Nat) : t ∈ adl l x ↔ t ∈ l ∨ t = x := by
  unfold adl
  split
  · rename_i h
    constructor
    · exact .inl
    · rintro (h1 | rfl)
      · exact h1
      · exact h
  · rw [List.mem_append, List.mem_singleton]
theorem adl_nd {l : List Nat} (h : l.Nodup) (x : Nat) : (adl l x).Nodup := by
  unfold adl
  split
  · exact h
  · rename_i hx
    rw [List.nodup_append]
    refine ⟨h, by simp, fun a ha b hb => ?_⟩
    rw [List.mem_singleton] at hb
    subst hb
    intro e; subst e
    exact hx ha
theorem adl_get {l : List Nat} {j : Nat} (h : j < l.length) (x : Nat) : (adl l x).getD j 0 = l.getD j 0 := by
  unfold adl
  split
  · rfl
  · rw [List.getD_eq_getElem?_getD, List.getElem?_append_left h, ← List.getD_eq_getElem?_getD]
theorem adl_len (l : List Nat) (x : Nat) : l.length ≤ (adl l x).length := by
  unfold adl
  split
  · exact Nat.le_refl _
  · rw [List.length_append]; omega
theorem Bf.size {N : Nat} {f g : Nat → Nat} (hf : ∀ s, s < N → f s < N) (hg : ∀ s, s < N → g s < N) {s : Nat} (hs : s < N) {l : List Nat} {i : Nat} (h : Bf N f g s l i) : l.length ≤ N := by
  have p : l ⊆ List.range N := fun t ht => List.mem_range.2 ((h.rc t ht).lt hf hg hs)
  have := List.Nodup.length_le_of_subset h.nd p
  rwa [List.length_range] at this
theorem Bf.step {N : Nat} {f g : Nat → Nat} {s : Nat} {l : List Nat} {i : Nat} (h : Bf N f g s l i) (hi : i < l.length) : Bf N f g s (adl (adl l (f (l.getD i 0))) (g (l.getD i 0))) (i + 1) := by
  have hm : l.getD i 0 ∈ l := by rw [List.getD_eq_getElem?_getD, List.getElem?_eq_getElem hi]; exact List.getElem_mem _
  have hr := h.rc _ hm
  have l1 := adl_len l (f (l.getD i 0))
  have l2 := adl_len (adl l (f (l.getD i 0))) (g (l.getD i 0))
  refine ⟨adl_nd (adl_nd h.nd _) _, fun t ht => ?_, by rw [adl_mem, adl_mem]; exact .inl (.inl h.ne), by omega, fun j hj => ?_⟩
  · rw [adl_mem, adl_mem] at ht
    rcases ht with (h1 | rfl) | rfl
    · exact h.rc t h1
    · exact .one _ hr
    · exact .two _ hr
  · rw [adl_get (by omega), adl_get (by omega)]
    simp only [adl_mem]
    by_cases e : j = i
    · subst e; exact ⟨.inl (.inr rfl), .inr rfl⟩
    · have := h.cl j (by omega)
      exact ⟨.inl (.inl this.1), .inl (.inl this.2)⟩
theorem Bf.done {N : Nat} {f g : Nat → Nat} {s : Nat} {l : List Nat} {i : Nat} (h : Bf N f g s l i) (hi : i = l.length) : ∀ t, t ∈ l ↔ Rch f g s t := fun t => ⟨h.rc t, fun hr => by
  induction hr with
  | self => exact h.ne
  | one t _ ih =>
    obtain ⟨j, hj, rfl⟩ := List.getElem_of_mem ih
    have := (h.cl j (by omega)).1
    rwa [List.getD_eq_getElem?_getD, List.getElem?_eq_getElem hj] at this
  | two t _ ih =>
    obtain ⟨j, hj, rfl⟩ := List.getElem_of_mem ih
    have := (h.cl j (by omega)).2
    rwa [List.getD_eq_getElem?_getD, List.getElem?_eq_getElem hj] at this⟩
end Go.Proofs.YtdkkalplgfhpdaaDoor
