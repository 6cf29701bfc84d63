import Derived.Test.YtgojkabjgagjcaaEa
set_option linter.unusedSimpArgs false
set_option linter.unusedVariables false
set_option linter.unusedSectionVars false
set_option maxRecDepth 20000
namespace Go.Proofs.Ytgojkabjgagjcaa
attribute [local irreducible] QOp aL aC qL
theorem vldR {n : Nat} {ns : List Nat} (hv : Vld n ns) {a b : Nat} (h : lt ns a b = true) : b < n := by
  rcases Nat.lt_or_ge b n with h' | h'
  · exact h'
  · unfold lt at h
    rw [List.getD_eq_getElem?_getD, List.getElem?_eq_none (by rw [hv.1]; exact h')] at h
    simp at h
/-- Has a row the first point ahead of the second one? -/
def ahd (r : List Nat) (p : Nat × Nat) : Bool := decide (r.idxOf p.1 < r.idxOf p.2)
def Inn (n : Nat) (ps : List (Nat × Nat)) : Prop := ∀ p ∈ ps, p.1 < n ∧ p.2 < n
/-- Two points of which neither is below the other one. -/
structure ApP (n : Nat) (ns : List Nat) (p : Nat × Nat) : Prop where
  l : p.1 < n
  r : p.2 < n
  ne : p.1 ≠ p.2
  no : lt ns p.1 p.2 = false
  no2 : lt ns p.2 p.1 = false
/-- Rows in which each of some pairs stands once with its first point ahead. -/
structure Cov (n : Nat) (ns : List Nat) (rs : List (List Nat)) (ps : List (Nat × Nat)) : Prop where
  row : ∀ r ∈ rs, RowI n ns r
  cov : ∀ p ∈ ps, ∃ r ∈ rs, ahd r p = true
def lftP (r : List Nat) (ps : List (Nat × Nat)) : List (Nat × Nat) := ps.filter fun p => !ahd r p
def prA (n : Nat) (ns : List Nat) : List (Nat × Nat) := prsTo n (pf n ns false) n
def cls (n : Nat) (ns : List Nat) (ps : List (Nat × Nat)) : List Nat := clos n (prA n ns ++ ps)
def onE (n : Nat) (ns : List Nat) (ps : List (Nat × Nat)) : Option (List Nat) := if irr n (cls n ns ps) = true then some (nthN n (cls n ns ps) 0) else none
def wth (n : Nat) (ns : List Nat) : List (Nat × Nat) → List Nat
  | [] => ns
  | p :: _ => cls n ns [p]
def covN (n : Nat) (ns : List Nat) : Nat → List (Nat × Nat) → Option (List (List Nat))
  | 0, ps => (onE n ns ps).map fun r => [r]
  | k + 1, ps => (rowsL n (wth n ns ps)).findSome? fun r => (covN n ns k (lftP r ps)).map fun l => l ++ [r]
section
variable {n : Nat} {ns : List Nat} {ps : List (Nat × Nat)}
theorem prA_mem (hv : Vld n ns) {a b : Nat} : (a, b) ∈ prA n ns ↔ lt ns a b = true := prs_mem' hv
theorem prA_in (hv : Vld n ns) : Inn n (prA n ns) := fun p hp => (prs_mem.1 hp).1 |> fun h => ⟨h, (prs_mem.1 hp).2.1⟩
theorem pr_in (hv : Vld n ns) (hp : Inn n ps) : ∀ p ∈ prA n ns ++ ps, p.1 < n ∧ p.2 < n := fun p h => (List.mem_append.1 h).elim (prA_in hv p) (hp p)
theorem cls_vld (hv : Vld n ns) (hp : Inn n ps) : Vld n (cls n ns ps) := clos_vld (pr_in hv hp)
theorem cls_ok (hv : Vld n ns) (hp : Inn n ps) (h : irr n (cls n ns ps) = true) : okB n (cls n ns ps) = true := by
  have hin := pr_in hv hp
  refine okB_all (cls_vld hv hp).2 fun i hi => ⟨fun j hj k hk => ?_, ?_⟩
  · cases ht : trip (cls n ns ps) i j k
    · rfl
    · exfalso
      unfold trip at ht
      simp only [Bool.and_eq_true, Bool.not_eq_true'] at ht
      obtain ⟨h1, h2, h3⟩ := ht
      have r1 := (clos_iff hin hk).1 h1
      have r2 := (clos_iff hin hi).1 h2
      have := (clos_iff hin hi).2 (r1.trans r2)
      rw [show lt (cls n ns ps) j i = true from this] at h3
      exact Bool.noConfusion h3
  · cases hq : lt (cls n ns ps) i i
    · rfl
    · exact absurd ((clos_iff hin hi).1 hq) ((irr_iff hin).1 h i hi)
theorem reach_idx (hv : Vld n ns) (hp : Inn n ps) {r : List Nat} (hr : RowI n ns r) (ha : ∀ p ∈ ps, ahd r p = true) {a b : Nat} (h : Reach (prA n ns ++ ps) a b) : r.idxOf a < r.idxOf b := by
  have one : ∀ a b, (a, b) ∈ prA n ns ++ ps → r.idxOf a < r.idxOf b := fun a b h => by
    have hi := pr_in hv hp _ h
    rcases List.mem_append.1 h with h | h
    · exact hr.ord a b hi.2 ((prA_mem hv).1 h)
    · have := ha _ h
      unfold ahd at this
      exact of_decide_eq_true this
  induction h with
  | one h => exact one _ _ h
  | more _ h2 ih => exact Nat.lt_trans ih (one _ _ h2)
theorem cls_irr (hv : Vld n ns) (hp : Inn n ps) {r : List Nat} (hr : RowI n ns r) (ha : ∀ p ∈ ps, ahd r p = true) : irr n (cls n ns ps) = true :=
  (irr_iff (pr_in hv hp)).2 fun q _ h => absurd (reach_idx hv hp hr ha h) (Nat.lt_irrefl _)
theorem cls_row (hv : Vld n ns) (hp : Inn n ps) {r : List Nat} : RowI n (cls n ns ps) r ↔ RowI n ns r ∧ ∀ p ∈ ps, ahd r p = true := by
  have hin := pr_in hv hp
  constructor
  · intro h
    refine ⟨⟨h.len, h.all, fun a b hb hab => h.ord a b hb ((clos_iff hin hb).2 (.one (List.mem_append_left _ ((prA_mem hv).2 hab))))⟩, fun p hpp => ?_⟩
    exact decide_eq_true (h.ord p.1 p.2 (hp p hpp).2 ((clos_iff hin (hp p hpp).2).2 (.one (List.mem_append_right _ hpp))))
  · rintro ⟨h, ha⟩
    exact ⟨h.len, h.all, fun a b hb hab => reach_idx hv hp h ha ((clos_iff hin hb).1 hab)⟩
theorem nth0 (hv : Vld n ns) (hok : okB n ns = true) : RowI n ns (nthN n ns 0) := (rowI hv).1 (nth_ok (rest_pos hv hok 0)).row
theorem onE_some (hv : Vld n ns) (hp : Inn n ps) {r : List Nat} (h : onE n ns ps = some r) : RowI n ns r ∧ ∀ p ∈ ps, ahd r p = true := by
  unfold onE at h
  split at h
  · rename_i hi
    cases h
    exact (cls_row hv hp).1 (nth0 (cls_vld hv hp) (cls_ok hv hp hi))
  · cases h
theorem onE_none (hv : Vld n ns) (hp : Inn n ps) (h : onE n ns ps = none) {r : List Nat} (hr : RowI n ns r) (ha : ∀ p ∈ ps, ahd r p = true) : False := by
  unfold onE at h
  rw [if_pos (cls_irr hv hp hr ha)] at h
  cases h
theorem reach_one (hv : Vld n ns) (hok : okB n ns = true) {p : Nat × Nat} (hp : ApP n ns p) {a b : Nat} (h : Reach (prA n ns ++ [p]) a b) : lt ns a b = true ∨ ((a = p.1 ∨ lt ns a p.1 = true) ∧ (b = p.2 ∨ lt ns p.2 b = true)) := by
  have cases' : ∀ {a b}, (a, b) ∈ prA n ns ++ [p] → lt ns a b = true ∨ (a = p.1 ∧ b = p.2) := fun {a b} h => by
    rcases List.mem_append.1 h with h | h
    · exact .inl ((prA_mem hv).1 h)
    · rw [List.mem_singleton] at h
      exact .inr ⟨by rw [← h], by rw [← h]⟩
  have tr : ∀ {i j k : Nat}, lt ns j k = true → lt ns k i = true → lt ns j i = true := fun {i j k} h1 h2 => by
    have hi : i < n := vldR hv h2
    have hk : k < n := vldR hv h1
    exact okB_tr hok hi hk h2 h1
  induction h with
  | one h =>
    rcases cases' h with h | ⟨rfl, rfl⟩
    · exact .inl h
    · exact .inr ⟨.inl rfl, .inl rfl⟩
  | more _ h2 ih =>
    rename_i c b _
    rcases cases' h2 with h2 | ⟨e1, e2⟩
    · rcases ih with ih | ⟨i1, i2⟩
      · exact .inl (tr ih h2)
      · refine .inr ⟨i1, .inr ?_⟩
        rcases i2 with rfl | i2
        · exact h2
        · exact tr i2 h2
    · rcases ih with ih | ⟨i1, i2⟩
      · rw [e1] at ih
        exact .inr ⟨.inr ih, .inl e2⟩
      · exfalso
        rw [e1] at i2
        rcases i2 with i2 | i2
        · exact hp.ne i2
        · rw [hp.no2] at i2; cases i2
theorem wth_irr (hv : Vld n ns) (hok : okB n ns = true) {p : Nat × Nat} (hp : ApP n ns p) : irr n (cls n ns [p]) = true := by
  have hin : Inn n [p] := fun q hq => by rw [List.mem_singleton] at hq; subst hq; exact ⟨hp.l, hp.r⟩
  refine (irr_iff (pr_in hv hin)).2 fun q hq h => ?_
  rcases reach_one hv hok hp h with h | ⟨h1, h2⟩
  · rw [okB_irr hok hq] at h; cases h
  · have : p.1 = p.2 ∨ lt ns p.2 p.1 = true := by
      rcases h1 with rfl | h1
      · rcases h2 with h2 | h2
        · exact .inl h2
        · exact .inr h2
      · rcases h2 with rfl | h2
        · exact .inr h1
        · exact .inr (okB_tr hok hp.l hq h1 h2)
    rcases this with h | h
    · exact hp.ne h
    · rw [hp.no2] at h; cases h
theorem wth_vld (hv : Vld n ns) (hp : ∀ p ∈ ps, ApP n ns p) : Vld n (wth n ns ps) := by
  cases ps with
  | nil => exact hv
  | cons p l => exact cls_vld hv fun q hq => by rw [List.mem_singleton] at hq; subst hq; exact ⟨(hp _ List.mem_cons_self).l, (hp _ List.mem_cons_self).r⟩
theorem wth_ok (hv : Vld n ns) (hok : okB n ns = true) (hp : ∀ p ∈ ps, ApP n ns p) : okB n (wth n ns ps) = true := by
  cases ps with
  | nil => exact hok
  | cons p l => exact cls_ok hv (fun q hq => by rw [List.mem_singleton] at hq; subst hq; exact ⟨(hp _ List.mem_cons_self).l, (hp _ List.mem_cons_self).r⟩) (wth_irr hv hok (hp _ List.mem_cons_self))
theorem wth_rows (hv : Vld n ns) (hp : ∀ p ∈ ps, ApP n ns p) {r : List Nat} : r ∈ rowsL n (wth n ns ps) ↔ RowI n ns r ∧ ∀ p, ps.head? = some p → ahd r p = true := by
  rw [rowsL_mem, rowI (wth_vld hv hp)]
  cases ps with
  | nil => exact ⟨fun h => ⟨h, fun p hp => by cases hp⟩, fun h => h.1⟩
  | cons p l =>
    have hin : Inn n [p] := fun q hq => by rw [List.mem_singleton] at hq; subst hq; exact ⟨(hp _ List.mem_cons_self).l, (hp _ List.mem_cons_self).r⟩
    show RowI n (cls n ns [p]) r ↔ _
    rw [cls_row hv hin]
    exact ⟨fun h => ⟨h.1, fun q hq => by cases hq; exact h.2 _ (List.mem_singleton.2 rfl)⟩, fun h => ⟨h.1, fun q hq => by rw [List.mem_singleton] at hq; subst hq; exact h.2 _ rfl⟩⟩
theorem lft_ap {r : List Nat} (hp : ∀ p ∈ ps, ApP n ns p) : ∀ p ∈ lftP r ps, ApP n ns p := fun p h => hp p (List.mem_filter.1 h).1
theorem ap_in (hp : ∀ p ∈ ps, ApP n ns p) : Inn n ps := fun p h => ⟨(hp p h).l, (hp p h).r⟩
end
theorem covN_some {n : Nat} {ns : List Nat} (hv : Vld n ns) : ∀ (k : Nat) (ps : List (Nat × Nat)) (l : List (List Nat)), (∀ p ∈ ps, ApP n ns p) → covN n ns k ps = some l → l.length = k + 1 ∧ Cov n ns l ps
  | 0, ps, l, hp, h => by
    unfold covN at h
    obtain ⟨r, hr, rfl⟩ := Option.map_eq_some_iff.1 h
    obtain ⟨h1, h2⟩ := onE_some hv (ap_in hp) hr
    exact ⟨rfl, fun x hx => by rw [List.mem_singleton] at hx; subst hx; exact h1, fun p hpp => ⟨r, List.mem_singleton.2 rfl, h2 p hpp⟩⟩
  | k + 1, ps, l, hp, h => by
    unfold covN at h
    obtain ⟨r, hr, h⟩ := List.exists_of_findSome?_eq_some h
    obtain ⟨l', hl, rfl⟩ := Option.map_eq_some_iff.1 h
    have hI := ((wth_rows hv hp).1 hr).1
    obtain ⟨e, hc⟩ := covN_some hv k _ l' (lft_ap hp) hl
    refine ⟨by rw [List.length_append, e]; rfl, fun x hx => ?_, fun p hpp => ?_⟩
    · rcases List.mem_append.1 hx with h | h
      · exact hc.row x h
      · rw [List.mem_singleton] at h; subst h; exact hI
    · cases hq : ahd r p
      · obtain ⟨r', h1, h2⟩ := hc.cov p (List.mem_filter.2 ⟨hpp, by rw [hq]; rfl⟩)
        exact ⟨r', List.mem_append_left _ h1, h2⟩
      · exact ⟨r, List.mem_append_right _ (List.mem_singleton.2 rfl), hq⟩
theorem covN_none {n : Nat} {ns : List Nat} (hv : Vld n ns) : ∀ (k : Nat) (ps : List (Nat × Nat)) (rs : List (List Nat)), (∀ p ∈ ps, ApP n ns p) → covN n ns k ps = none → rs.length = k + 1 → Cov n ns rs ps → False
  | 0, ps, rs, hp, h, hl, hc => by
    unfold covN at h
    rw [Option.map_eq_none_iff] at h
    match rs, hl with
    | [r], _ =>
      refine onE_none hv (ap_in hp) h (hc.row r (List.mem_singleton.2 rfl)) fun p hpp => ?_
      obtain ⟨r', h1, h2⟩ := hc.cov p hpp
      rw [List.mem_singleton] at h1; subst h1; exact h2
  | k + 1, ps, rs, hp, h, hl, hc => by
    unfold covN at h
    rw [List.findSome?_eq_none_iff] at h
    obtain ⟨r, hr, hh⟩ : ∃ r ∈ rs, ∀ p, ps.head? = some p → ahd r p = true := by
      cases ps with
      | nil =>
        match rs, hl with
        | r :: _, _ => exact ⟨r, List.mem_cons_self, fun p hp => by cases hp⟩
      | cons p l =>
        obtain ⟨r, h1, h2⟩ := hc.cov p List.mem_cons_self
        exact ⟨r, h1, fun q hq => by cases hq; exact h2⟩
    have := h r ((wth_rows hv hp).2 ⟨hc.row r hr, hh⟩)
    rw [Option.map_eq_none_iff] at this
    refine covN_none hv k _ (rs.erase r) (lft_ap hp) this (by rw [List.length_erase_of_mem hr, hl]; rfl) ⟨fun x hx => hc.row x (List.mem_of_mem_erase hx), fun p hpp => ?_⟩
    obtain ⟨h1, h2⟩ := List.mem_filter.1 hpp
    obtain ⟨r', h3, h4⟩ := hc.cov p h1
    refine ⟨r', (List.mem_erase_of_ne fun e => ?_).2 h3, h4⟩
    rw [e] at h4
    rw [h4] at h2; cases h2
/-- The pairs of points that are apart, both ways. -/
def apf (ns : List Nat) (a b : Nat) : Bool := decide (a ≠ b) && (!lt ns a b && !lt ns b a)
def apL (n : Nat) (ns : List Nat) : List (Nat × Nat) := prsTo n (apf ns) n
theorem apL_mem {n : Nat} {ns : List Nat} {p : Nat × Nat} : p ∈ apL n ns ↔ ApP n ns p := by
  unfold apL
  rw [prs_mem]
  unfold apf
  simp only [Bool.and_eq_true, Bool.not_eq_true', decide_eq_true_eq]
  exact ⟨fun ⟨h1, h2, h3, h4, h5⟩ => ⟨h1, h2, h3, h4, h5⟩, fun h => ⟨h.l, h.r, h.ne, h.no, h.no2⟩⟩
/-- Some so many rows are enough. -/
theorem cov_ex {n : Nat} {ns : List Nat} (hv : Vld n ns) (hok : okB n ns = true) : covN n ns (apL n ns).length (apL n ns) ≠ none := by
  intro h
  refine covN_none hv _ _ (nthN n ns 0 :: (apL n ns).map fun p => nthN n (cls n ns [p]) 0) (fun p hp => apL_mem.1 hp) h (by rw [List.length_cons, List.length_map]) ⟨fun r hr => ?_, fun p hp => ?_⟩
  · rcases List.mem_cons.1 hr with rfl | hr
    · exact nth0 hv hok
    · obtain ⟨p, hp, rfl⟩ := List.mem_map.1 hr
      have ha := apL_mem.1 hp
      have hin : Inn n [p] := fun q hq => by rw [List.mem_singleton] at hq; subst hq; exact ⟨ha.l, ha.r⟩
      exact ((cls_row hv hin).1 (nth0 (cls_vld hv hin) (cls_ok hv hin (wth_irr hv hok ha)))).1
  · have ha := apL_mem.1 hp
    have hin : Inn n [p] := fun q hq => by rw [List.mem_singleton] at hq; subst hq; exact ⟨ha.l, ha.r⟩
    exact ⟨_, List.mem_cons_of_mem _ (List.mem_map.2 ⟨p, hp, rfl⟩), ((cls_row hv hin).1 (nth0 (cls_vld hv hin) (cls_ok hv hin (wth_irr hv hok ha)))).2 p (List.mem_singleton.2 rfl)⟩
/-- The least number of rows, less one. -/
theorem dim_ex {n : Nat} {ns : List Nat} (hv : Vld n ns) (hok : okB n ns = true) : ∃ k l, covN n ns k (apL n ns) = some l ∧ k ≤ (apL n ns).length ∧ ∀ j, j < k → covN n ns j (apL n ns) = none := by
  have key : ∀ m, covN n ns m (apL n ns) ≠ none → ∃ k l, covN n ns k (apL n ns) = some l ∧ k ≤ m ∧ ∀ j, j < k → covN n ns j (apL n ns) = none := by
    intro m
    induction m using Nat.strongRecOn with
    | _ m ih =>
      intro h
      by_cases hq : ∃ j, j < m ∧ covN n ns j (apL n ns) ≠ none
      · obtain ⟨j, hj, h2⟩ := hq
        obtain ⟨k, l, a1, a2, a3⟩ := ih j hj h2
        exact ⟨k, l, a1, by omega, a3⟩
      · obtain ⟨l, hl⟩ := Option.ne_none_iff_exists'.1 h
        refine ⟨m, l, hl, Nat.le_refl _, fun j hj => ?_⟩
        cases hc : covN n ns j (apL n ns) with
        | none => rfl
        | some x => exact absurd ⟨j, hj, by rw [hc]; simp⟩ hq
  exact key _ (cov_ex hv hok)
end Go.Proofs.Ytgojkabjgagjcaa
