import Derived.Test.YtpbnoocdkchooaaDoorEb
set_option linter.unusedSimpArgs false
set_option linter.unusedVariables false
set_option linter.unusedSectionVars false
set_option maxRecDepth 20000
namespace Go.Proofs.YtpbnoocdkchooaaDoor
attribute [local irreducible] QOp aL aC qL
theorem idx_ne {c x : Nat} {t : List Nat} (h : ¬ c = x) : (c :: t).idxOf x = t.idxOf x + 1 := by
  rw [List.idxOf_cons, show (c == x) = false from beq_false_of_ne h]
  rfl
theorem pair_sub {x y : Nat} : ∀ {l : List Nat}, y ∈ l → l.idxOf x < l.idxOf y → List.Sublist [x, y] l
  | [], h, _ => by cases h
  | c :: t, hy, h => by
    by_cases hcx : c = x
    · subst hcx
      have hyc : ¬ c = y := fun e => by subst e; exact Nat.lt_irrefl _ h
      have : y ∈ t := (List.mem_cons.1 hy).resolve_left fun e => hyc e.symm
      exact (List.singleton_sublist.2 this).cons_cons _
    · by_cases hcy : c = y
      · subst hcy
        rw [List.idxOf_cons_self] at h
        exact absurd h (Nat.not_lt_zero _)
      · rw [idx_ne hcx, idx_ne hcy] at h
        exact (pair_sub ((List.mem_cons.1 hy).resolve_left fun e => hcy e.symm) (Nat.lt_of_succ_lt_succ h)).cons _
theorem sub_idx {x y : Nat} : ∀ {l : List Nat}, l.Nodup → List.Sublist [x, y] l → l.idxOf x < l.idxOf y
  | [], _, h => by cases h
  | c :: t, hn, h => by
    rw [List.nodup_cons] at hn
    cases h with
    | cons _ h =>
      have hx : ¬ c = x := fun e => hn.1 (by rw [e]; exact h.subset List.mem_cons_self)
      have hy : ¬ c = y := fun e => hn.1 (by rw [e]; exact h.subset (List.mem_cons_of_mem _ List.mem_cons_self))
      rw [idx_ne hx, idx_ne hy]
      exact Nat.succ_lt_succ (sub_idx hn.2 h)
    | cons_cons _ h =>
      have hy : ¬ x = y := fun e => hn.1 (by rw [e]; exact h.subset List.mem_cons_self)
      rw [List.idxOf_cons_self, idx_ne hy]
      exact Nat.succ_pos _
theorem RowI.nd {n : Nat} {ns r : List Nat} (h : RowI n ns r) : r.Nodup := (full_perm h.len h.all).nodup_iff.2 List.nodup_range
theorem vldA {n : Nat} {ns : List Nat} (hv : Vld n ns) {a b : Nat} (h : lt ns a b = true) : a < n := lt_lt hv.2 h
section
variable {n : Nat} {ns ns' : List Nat}
theorem idx_rev {r : List Nat} (hr : r.Nodup) {a b : Nat} (hb : b ∈ r) (h : r.idxOf a < r.idxOf b) : r.reverse.idxOf b < r.reverse.idxOf a :=
  sub_idx ((List.reverse_perm r).nodup_iff.2 hr) (List.reverse_sublist.2 (pair_sub hb h))
theorem row_dual (hv' : Vld n ns') (hd : ∀ a b, a < n → b < n → lt ns' a b = lt ns b a) {r : List Nat} (h : RowI n ns r) : RowI n ns' r.reverse :=
  ⟨by rw [List.length_reverse, h.len], fun p hp => List.mem_reverse.2 (h.all p hp), fun a b hb hab => by
    have ha := vldA hv' hab
    rw [hd a b ha hb] at hab
    exact idx_rev h.nd (h.all a ha) (h.ord b a ha hab)⟩
/-- The dual order wants no more rows. -/
theorem dual_le (hv : Vld n ns) (hv' : Vld n ns') (hd : ∀ a b, a < n → b < n → lt ns' a b = lt ns b a) {k : Nat} {l : List (List Nat)} (h : covN n ns k (apL n ns) = some l) : covN n ns' k (apL n ns') ≠ none := by
  intro hn
  obtain ⟨hl, hc⟩ := covN_some hv k _ l (fun p hp => apL_mem.1 hp) h
  refine covN_none hv' k _ (l.map List.reverse) (fun p hp => apL_mem.1 hp) hn (by rw [List.length_map, hl]) ⟨fun r hr => ?_, fun p hp => ?_⟩
  · obtain ⟨x, hx, rfl⟩ := List.mem_map.1 hr
    exact row_dual hv' hd (hc.row x hx)
  · have hp := apL_mem.1 hp
    obtain ⟨r, h1, h2⟩ := hc.cov (p.2, p.1) (apL_mem.2 ⟨hp.r, hp.l, fun e => hp.ne e.symm, by rw [← hd _ _ hp.l hp.r]; exact hp.no, by rw [← hd _ _ hp.r hp.l]; exact hp.no2⟩)
    refine ⟨r.reverse, List.mem_map.2 ⟨r, h1, rfl⟩, ?_⟩
    unfold ahd at h2 ⊢
    exact decide_eq_true (idx_rev (hc.row r h1).nd ((hc.row r h1).all _ hp.l) (of_decide_eq_true h2))
/-- The points of a list in a row, by their places in the list. -/
def resL (M r : List Nat) : List Nat := (r.filter fun x => M.contains x).map fun x => M.idxOf x
theorem res_sub {M r : List Nat} (hM : M.Nodup) {a b : Nat} (ha : a < M.length) (hb : b < M.length) (hr : M.getD b 0 ∈ r) (h : r.idxOf (M.getD a 0) < r.idxOf (M.getD b 0)) : List.Sublist [a, b] (resL M r) := by
  have ea : M.getD a 0 = M[a] := by rw [List.getD_eq_getElem?_getD, List.getElem?_eq_getElem ha]; rfl
  have eb : M.getD b 0 = M[b] := by rw [List.getD_eq_getElem?_getD, List.getElem?_eq_getElem hb]; rfl
  rw [ea, eb] at h
  rw [eb] at hr
  have h1 := ((pair_sub hr h).filter fun x => M.contains x).map fun x => M.idxOf x
  rw [List.filter_cons, if_pos (List.contains_iff_mem.2 (List.getElem_mem ha)), List.filter_cons, if_pos (List.contains_iff_mem.2 (List.getElem_mem hb))] at h1
  simp only [List.filter_nil, List.map_cons, List.map_nil] at h1
  rw [nd_idx hM ha, nd_idx hM hb] at h1
  exact h1
theorem row_part {M : List Nat} (hM : M.Nodup) (hMn : ∀ x ∈ M, x < n) (hv' : Vld M.length ns') (hd : ∀ a b, a < M.length → b < M.length → lt ns' a b = lt ns (M.getD a 0) (M.getD b 0)) {r : List Nat} (h : RowI n ns r) : RowI M.length ns' (resL M r) := by
  have hl : (resL M r).length = M.length := by
    unfold resL
    rw [List.length_map]
    refine ((List.perm_ext_iff_of_nodup (h.nd.filter _) hM).2 fun x => ?_).length_eq
    rw [List.mem_filter, List.contains_iff_mem]
    exact ⟨fun h => h.2, fun hx => ⟨h.all x (hMn x hx), hx⟩⟩
  have ha : ∀ p, p < M.length → p ∈ resL M r := fun p hp => by
    refine List.mem_map.2 ⟨M[p], List.mem_filter.2 ⟨h.all _ (hMn _ (List.getElem_mem hp)), List.contains_iff_mem.2 (List.getElem_mem hp)⟩, nd_idx hM hp⟩
  have hnd : (resL M r).Nodup := (full_perm hl ha).nodup_iff.2 List.nodup_range
  refine ⟨hl, ha, fun a b hb hab => ?_⟩
  have ha' := vldA hv' hab
  rw [hd a b ha' hb] at hab
  have hbn : M.getD b 0 < n := hMn _ (by rw [List.getD_eq_getElem?_getD, List.getElem?_eq_getElem hb]; exact List.getElem_mem hb)
  exact sub_idx hnd (res_sub hM ha' hb (h.all _ hbn) (h.ord _ _ hbn hab))
/-- A part wants no more rows. -/
theorem part_le {M : List Nat} (hv : Vld n ns) (hM : M.Nodup) (hMn : ∀ x ∈ M, x < n) (hv' : Vld M.length ns') (hd : ∀ a b, a < M.length → b < M.length → lt ns' a b = lt ns (M.getD a 0) (M.getD b 0)) {k : Nat} {l : List (List Nat)} (h : covN n ns k (apL n ns) = some l) : covN M.length ns' k (apL M.length ns') ≠ none := by
  intro hn
  obtain ⟨hl, hc⟩ := covN_some hv k _ l (fun p hp => apL_mem.1 hp) h
  have hmem : ∀ a, a < M.length → M.getD a 0 < n := fun a ha => hMn _ (by rw [List.getD_eq_getElem?_getD, List.getElem?_eq_getElem ha]; exact List.getElem_mem ha)
  refine covN_none hv' k _ (l.map (resL M)) (fun p hp => apL_mem.1 hp) hn (by rw [List.length_map, hl]) ⟨fun r hr => ?_, fun p hp => ?_⟩
  · obtain ⟨x, hx, rfl⟩ := List.mem_map.1 hr
    exact row_part hM hMn hv' hd (hc.row x hx)
  · have hp := apL_mem.1 hp
    obtain ⟨r, h1, h2⟩ := hc.cov (M.getD p.1 0, M.getD p.2 0) (apL_mem.2 ⟨hmem _ hp.l, hmem _ hp.r, fun e => hp.ne (by
      have ha : p.1 < M.length := hp.l
      have hb : p.2 < M.length := hp.r
      have e : M.getD p.1 0 = M.getD p.2 0 := e
      rw [List.getD_eq_getElem?_getD, List.getElem?_eq_getElem ha, List.getD_eq_getElem?_getD, List.getElem?_eq_getElem hb] at e
      have e : M[p.1] = M[p.2] := e
      rw [← nd_idx hM ha, ← nd_idx hM hb, e]), by rw [← hd _ _ hp.l hp.r]; exact hp.no, by rw [← hd _ _ hp.r hp.l]; exact hp.no2⟩)
    refine ⟨resL M r, List.mem_map.2 ⟨r, h1, rfl⟩, ?_⟩
    unfold ahd at h2 ⊢
    exact decide_eq_true (sub_idx (row_part hM hMn hv' hd (hc.row r h1)).nd (res_sub hM hp.l hp.r ((hc.row r h1).all _ (hmem _ hp.r)) (of_decide_eq_true h2)))
end
end Go.Proofs.YtpbnoocdkchooaaDoor
