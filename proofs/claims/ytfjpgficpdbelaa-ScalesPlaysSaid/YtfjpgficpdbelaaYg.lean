import Derived.Test.YtfjpgficpdbelaaYf
import Derived.Test.YtfjpgficpdbelaaEngZzg
import Derived.Test.YtfjpgficpdbelaaGf
set_option linter.unusedSimpArgs false
set_option linter.unusedVariables false
set_option linter.unusedSectionVars false
set_option maxRecDepth 20000
namespace Go.Proofs.Ytfjpgficpdbelaa
attribute [local irreducible] QOp aL aC qL
/-! A way to weigh. -/
inductive Sg where
  | d
  | w (a b : Nat) (l r : Sg)
def sgB (n : Nat) : Sg → Nat → List Nat → Bool
  | .d, _, ns => (frL n ns).isEmpty
  | .w _ _ _ _, 0, _ => false
  | .w a b l r, k + 1, ns => decide (a < n) && (decide (b < n) && (decide (a < b) && (frB ns a b && (sgB n l k (alN n ns a b) && sgB n r k (alN n ns b a)))))
theorem sg_cost {n : Nat} : ∀ (s : Sg) (k : Nat) {ns : List Nat}, Od n ns → sgB n s k ns = true → cost n ns ≤ k
  | .d, k, ns, h, hs => by
    have hl : frL n ns = [] := List.isEmpty_iff.1 hs
    rw [cost_nil h hl]; exact Nat.zero_le _
  | .w _ _ _ _, 0, ns, h, hs => by cases hs
  | .w a b l r, k + 1, ns, h, hs => by
    unfold sgB at hs
    simp only [Bool.and_eq_true, decide_eq_true_eq] at hs
    obtain ⟨h1, h2, h3, h4, h5, h6⟩ := hs
    have hp : (a, b) ∈ frL n ns := frL_mem.2 ⟨h1, h2, h3, h4⟩
    have w := frL_wg hp
    have h7 := sg_cost l k (w.od h) h5
    have h8 := sg_cost r k (w.swap.od h) h6
    have h9 := cost_le h hp
    unfold wgh at h9
    dsimp only at h9 h7 h8
    omega
/-- Points of which nothing is known. -/
def nkN (n : Nat) : List Nat := List.replicate n 0
theorem nk_lt (n a b : Nat) : lt (nkN n) a b = false := by
  unfold lt nkN
  rw [List.getD_eq_getElem?_getD, List.getElem?_replicate]
  split <;> simp
theorem nk_od (n : Nat) : Od n (nkN n) := od_of ⟨by simp [nkN], fun x hx => by rw [List.eq_of_mem_replicate hx]; exact Nat.pow_pos (by decide)⟩ (fun a _ => nk_lt n a a) fun a b c _ _ _ h _ => by rw [nk_lt] at h; cases h
def demT : Nat → Nat
  | 0 => 0
  | 1 => 0
  | 2 => 1
  | 3 => 3
  | 4 => 5
  | _ => 7
open Sg in
def demS : Nat → Sg
  | 0 => d
  | 1 => d
  | 2 => (w 0 1 d d)
  | 3 => (w 0 1 (w 0 2 (w 1 2 d d) d) (w 0 2 d (w 1 2 d d)))
  | 4 => (w 0 1 (w 2 3 (w 0 2 (w 1 2 d (w 1 3 d d)) (w 0 3 (w 1 3 d d) d)) (w 0 3 (w 1 2 (w 1 3 d d) d) (w 0 2 (w 1 2 d d) d))) (w 2 3 (w 0 3 (w 0 2 d (w 1 2 d d)) (w 1 2 d (w 1 3 d d))) (w 0 2 (w 0 3 d (w 1 3 d d)) (w 1 2 (w 1 3 d d) d))))
  | _ => (w 0 1 (w 2 3 (w 0 2 (w 2 4 (w 3 4 (w 1 3 (w 1 2 d d) (w 1 4 d d)) (w 1 4 (w 1 2 d d) (w 1 3 d d))) (w 0 4 (w 1 2 (w 1 4 d d) (w 1 3 d d)) (w 1 2 d (w 1 3 d d)))) (w 0 4 (w 1 4 (w 1 3 (w 3 4 d d) (w 0 3 d d)) (w 3 4 (w 0 3 d d) (w 1 3 d d))) (w 0 3 (w 1 3 (w 2 4 d d) (w 2 4 d d)) (w 2 4 (w 3 4 d d) d)))) (w 0 3 (w 3 4 (w 2 4 (w 1 2 (w 1 3 d d) (w 1 4 d d)) (w 1 4 (w 1 3 d d) (w 1 2 d d))) (w 0 4 (w 1 3 (w 1 4 d d) (w 1 2 d d)) (w 1 2 (w 1 3 d d) d))) (w 0 4 (w 1 4 (w 1 2 (w 2 4 d d) (w 0 2 d d)) (w 2 4 (w 0 2 d d) (w 1 2 d d))) (w 0 2 (w 1 2 (w 3 4 d d) (w 3 4 d d)) (w 2 4 d (w 3 4 d d)))))) (w 2 3 (w 0 3 (w 0 4 (w 0 2 (w 2 4 (w 3 4 d d) d) (w 1 2 (w 3 4 d d) (w 3 4 d d))) (w 1 4 (w 2 4 (w 1 2 d d) (w 0 2 d d)) (w 1 2 (w 0 2 d d) (w 2 4 d d)))) (w 3 4 (w 0 4 (w 1 2 d (w 1 3 d d)) (w 1 3 (w 1 2 d d) (w 1 4 d d))) (w 2 4 (w 1 4 (w 1 2 d d) (w 1 3 d d)) (w 1 2 (w 1 4 d d) (w 1 3 d d))))) (w 0 2 (w 0 4 (w 0 3 (w 2 4 d (w 3 4 d d)) (w 1 3 (w 2 4 d d) (w 2 4 d d))) (w 1 4 (w 3 4 (w 1 3 d d) (w 0 3 d d)) (w 1 3 (w 0 3 d d) (w 3 4 d d)))) (w 2 4 (w 0 4 (w 1 2 (w 1 3 d d) d) (w 1 2 (w 1 3 d d) (w 1 4 d d))) (w 3 4 (w 1 4 (w 1 3 d d) (w 1 2 d d)) (w 1 3 (w 1 4 d d) (w 1 2 d d)))))))
theorem dem_up {n : Nat} (hn : n ≤ 5) : sgB n (demS n) (demT n) (nkN n) = true := by
  obtain rfl | rfl | rfl | rfl | rfl | rfl : n = 0 ∨ n = 1 ∨ n = 2 ∨ n = 3 ∨ n = 4 ∨ n = 5 := by omega
  all_goals decide +kernel
theorem dem_rows {n : Nat} (hn : n ≤ 5) : 2 ^ demT n < 2 * rwN n (nkN n) := by
  obtain rfl | rfl | rfl | rfl | rfl | rfl : n = 0 ∨ n = 1 ∨ n = 2 ∨ n = 3 ∨ n = 4 ∨ n = 5 := by omega
  all_goals decide +kernel
theorem dem_cost {n : Nat} (hn : n ≤ 5) : cost n (nkN n) = demT n := by
  have h1 := sg_cost _ _ (nk_od n) (dem_up hn)
  have h2 := cost_rows _ (nk_od n)
  have h3 := dem_rows hn
  refine Nat.le_antisymm h1 ?_
  refine Classical.byContradiction fun hq => ?_
  have h4 : cost n (nkN n) + 1 ≤ demT n := by omega
  have h5 := Nat.pow_le_pow_right (n := 2) (by decide) h4
  rw [Nat.pow_succ] at h5
  omega
/-- No order costs more. -/
theorem cost_top {n : Nat} (hn : n ≤ 5) {ns : List Nat} (h : Od n ns) : cost n ns ≤ 7 := by
  have h1 := cost_more _ (nk_od n) ns h fun x y hxy => by rw [nk_lt] at hxy; cases hxy
  rw [dem_cost hn] at h1
  have : demT n ≤ 7 := by
    obtain rfl | rfl | rfl | rfl | rfl | rfl : n = 0 ∨ n = 1 ∨ n = 2 ∨ n = 3 ∨ n = 4 ∨ n = 5 := by omega
    all_goals decide
  omega
/-! The dual. -/
/-! What a keeper keeps. -/
def scK (ns : List Nat) : List Nat := ns ++ List.replicate (5 - ns.length) 0
abbrev ScM := List (List Nat × Int)
structure ScI (n : Nat) (m : ScM) : Prop where
  nd : (m.map (·.1)).Nodup
  at_ : ∀ k v, (k, v) ∈ m → ∃ ns, Od n ns ∧ k = scK ns ∧ v = (cost n ns : Nat)
def scW (n : Nat) (c : ScM → List Nat → Nat × ScM) (ns : List Nat) (m : ScM) (p : Nat × Nat) : Nat × ScM :=
  (1 + max (c m (alN n ns p.1 p.2)).1 (c (c m (alN n ns p.1 p.2)).2 (alN n ns p.2 p.1)).1, (c (c m (alN n ns p.1 p.2)).2 (alN n ns p.2 p.1)).2)
def scL (w : ScM → Nat × Nat → Nat × ScM) (l : List (Nat × Nat)) (m : ScM) : Nat → Nat × ScM
  | 0 => (0, m)
  | i + 1 => (if i = 0 ∨ (w (scL w l m i).2 (l.getD i (0, 0))).1 < (scL w l m i).1 then (w (scL w l m i).2 (l.getD i (0, 0))).1 else (scL w l m i).1, (w (scL w l m i).2 (l.getD i (0, 0))).2)
def scM (n : Nat) : Nat → ScM → List Nat → Nat × ScM
  | 0, m, _ => (0, m)
  | f + 1, m, ns => match gget m (scK ns) with
    | some v => (v.toNat, m)
    | none => ((scL (scW n (scM n f) ns) (frL n ns) m (frL n ns).length).1, gput (scL (scW n (scM n f) ns) (frL n ns) m (frL n ns).length).2 (scK ns) ((scL (scW n (scM n f) ns) (frL n ns) m (frL n ns).length).1 : Nat))
theorem scK_len {n : Nat} {ns : List Nat} (hn : n ≤ 5) (h : Od n ns) : (scK ns).length = 5 := by
  have := h.vld.1
  unfold scK; rw [List.length_append, List.length_replicate]; omega
theorem scK_inj {n : Nat} {a b : List Nat} (ha : Od n a) (hb : Od n b) (h : scK a = scK b) : a = b := by
  have h1 := ha.vld.1
  have h2 := hb.vld.1
  unfold scK at h
  exact (List.append_inj h (by omega)).1
theorem scM_ok {n : Nat} : ∀ (f : Nat) {m : ScM} {ns : List Nat}, Od n ns → rwN n ns ≤ f → ScI n m → (scM n f m ns).1 = cost n ns ∧ ScI n (scM n f m ns).2
  | 0, m, ns, h, h0, _ => by have := rw_pos h; omega
  | f + 1, m, ns, h, h0, hI => by
    have ih := fun {m ns} => scM_ok (n := n) f (m := m) (ns := ns)
    unfold scM
    cases hg : gget m (scK ns) with
    | some v =>
      obtain ⟨ms, h1, h2, h3⟩ := hI.at_ _ _ (gget_mem hg)
      obtain rfl := scK_inj h h1 h2
      exact ⟨by simp [h3], hI⟩
    | none =>
      dsimp only
      have hw : ∀ m p, p ∈ frL n ns → ScI n m → (scW n (scM n f) ns m p).1 = wgh n ns p ∧ ScI n (scW n (scM n f) ns m p).2 := by
        intro m p hp hm
        have w := frL_wg hp
        have q1 := w.rw_lt h
        have q2 := w.swap.rw_lt h
        obtain ⟨e1, i1⟩ := ih (w.od h) (by omega) hm
        obtain ⟨e2, i2⟩ := ih (w.swap.od h) (by omega) i1
        unfold scW wgh
        exact ⟨by dsimp only; rw [e1, e2], i2⟩
      have hl : ∀ i, i ≤ (frL n ns).length → (scL (scW n (scM n f) ns) (frL n ns) m i).1 = mnl (((frL n ns).map (wgh n ns)).take i) ∧ ScI n (scL (scW n (scM n f) ns) (frL n ns) m i).2 := by
        intro i
        induction i with
        | zero => intro _; exact ⟨by simp [scL, mnl], hI⟩
        | succ i ih2 =>
          intro hi
          obtain ⟨e1, i1⟩ := ih2 (by omega)
          have hp : (frL n ns).getD i (0, 0) ∈ frL n ns := by
            rw [List.getD_eq_getElem?_getD, List.getElem?_eq_getElem (by omega)]
            exact List.getElem_mem _
          obtain ⟨e2, i2⟩ := hw _ _ hp i1
          have hlen : i < ((frL n ns).map (wgh n ns)).length := by rw [List.length_map]; omega
          have hs : ((frL n ns).map (wgh n ns)).take (i + 1) = ((frL n ns).map (wgh n ns)).take i ++ [wgh n ns ((frL n ns).getD i (0, 0))] := by
            rw [List.take_succ_eq_append_getElem hlen]
            congr 2
            rw [List.getElem_map, List.getD_eq_getElem?_getD, List.getElem?_eq_getElem (by omega)]
            rfl
          refine ⟨?_, i2⟩
          show (if i = 0 ∨ _ < _ then _ else _) = _
          rw [hs, mnl_snoc, e1, e2]
          have hz : (i = 0 ∨ wgh n ns ((frL n ns).getD i (0, 0)) < mnl (((frL n ns).map (wgh n ns)).take i)) ↔ (((frL n ns).map (wgh n ns)).take i = [] ∨ wgh n ns ((frL n ns).getD i (0, 0)) < mnl (((frL n ns).map (wgh n ns)).take i)) := by
            refine or_congr_left ?_
            rw [← List.length_eq_zero_iff, List.length_take]
            omega
          by_cases hc : i = 0 ∨ wgh n ns ((frL n ns).getD i (0, 0)) < mnl (((frL n ns).map (wgh n ns)).take i)
          · rw [if_pos hc, if_pos (hz.1 hc)]
          · rw [if_neg hc, if_neg fun q => hc (hz.2 q)]
      obtain ⟨e1, i1⟩ := hl _ (Nat.le_refl _)
      rw [show ((frL n ns).map (wgh n ns)).take (frL n ns).length = (frL n ns).map (wgh n ns) from List.take_of_length_le (by rw [List.length_map]; exact Nat.le_refl _), ← cost_eq h] at e1
      refine ⟨e1, ⟨gput_nodup i1.nd, fun k v hk => ?_⟩⟩
      rcases gput_mem hk with hk | ⟨rfl, rfl⟩
      · exact i1.at_ _ _ hk
      · exact ⟨ns, h, rfl, by rw [e1]⟩
theorem scW_ok {n f : Nat} {m : ScM} {ns : List Nat} (h : Od n ns) (h0 : rwN n ns ≤ f + 1) (hm : ScI n m) {p : Nat × Nat} (w : Wg n ns p.1 p.2) : (scW n (scM n f) ns m p).1 = wgh n ns p ∧ ScI n (scW n (scM n f) ns m p).2 := by
  have q1 := w.rw_lt h
  have q2 := w.swap.rw_lt h
  obtain ⟨e1, i1⟩ := scM_ok f (w.od h) (by omega) hm
  obtain ⟨e2, i2⟩ := scM_ok f (w.swap.od h) (by omega) i1
  unfold scW wgh
  exact ⟨by dsimp only; rw [e1, e2], i2⟩
theorem scL_ok {n f : Nat} {m : ScM} {ns : List Nat} (h : Od n ns) (h0 : rwN n ns ≤ f + 1) (hm : ScI n m) : ∀ i, i ≤ (frL n ns).length → ScI n (scL (scW n (scM n f) ns) (frL n ns) m i).2
  | 0, _ => hm
  | i + 1, hi => by
    have ih := scL_ok h h0 hm i (by omega)
    have hp : (frL n ns).getD i (0, 0) ∈ frL n ns := by
      rw [List.getD_eq_getElem?_getD, List.getElem?_eq_getElem (by omega)]
      exact List.getElem_mem _
    exact (scW_ok h h0 ih (frL_wg hp)).2
theorem scK_ok {n : Nat} (hn : n ≤ 5) {ns : List Nat} (h : Od n ns) : (scK ns).length = 5 ∧ ∀ x ∈ scK ns, x < 9223372036854775808 := by
  refine ⟨scK_len hn h, fun x hx => ?_⟩
  have hp : 2 ^ n ≤ 2 ^ 5 := Nat.pow_le_pow_right (by decide) hn
  unfold scK at hx
  rcases List.mem_append.1 hx with hx | hx
  · have := h.vld.2 x hx; omega
  · rw [List.eq_of_mem_replicate hx]; decide
theorem ScI.ok {n : Nat} (hn : n ≤ 5) {m : ScM} (h : ScI n m) : ∀ p ∈ m, p.1.length = 5 ∧ ∀ x ∈ p.1, x < 9223372036854775808 := by
  rintro ⟨k, v⟩ hp
  obtain ⟨ns, h1, h2, _⟩ := h.at_ _ _ hp
  rw [h2]
  exact scK_ok hn h1
theorem scM_none {n f : Nat} {m : ScM} {ns : List Nat} (h : gget m (scK ns) = none) : (scM n (f + 1) m ns).2 = gput (scL (scW n (scM n f) ns) (frL n ns) m (frL n ns).length).2 (scK ns) ((scL (scW n (scM n f) ns) (frL n ns) m (frL n ns).length).1 : Nat) ∧ (scM n (f + 1) m ns).1 = (scL (scW n (scM n f) ns) (frL n ns) m (frL n ns).length).1 := by
  have e : scM n (f + 1) m ns = match gget m (scK ns) with
    | some v => (v.toNat, m)
    | none => ((scL (scW n (scM n f) ns) (frL n ns) m (frL n ns).length).1, gput (scL (scW n (scM n f) ns) (frL n ns) m (frL n ns).length).2 (scK ns) ((scL (scW n (scM n f) ns) (frL n ns) m (frL n ns).length).1 : Nat)) := rfl
  rw [e, h]
  exact ⟨rfl, rfl⟩
theorem scM_some {n f : Nat} {m : ScM} {ns : List Nat} {v : Int} (h : gget m (scK ns) = some v) : (scM n (f + 1) m ns).2 = m ∧ (scM n (f + 1) m ns).1 = v.toNat := by
  have e : scM n (f + 1) m ns = match gget m (scK ns) with
    | some v => (v.toNat, m)
    | none => ((scL (scW n (scM n f) ns) (frL n ns) m (frL n ns).length).1, gput (scL (scW n (scM n f) ns) (frL n ns) m (frL n ns).length).2 (scK ns) ((scL (scW n (scM n f) ns) (frL n ns) m (frL n ns).length).1 : Nat)) := rfl
  rw [e, h]
  exact ⟨rfl, rfl⟩
theorem scI_nil (n : Nat) : ScI n [] := ⟨List.nodup_nil, fun k v h => by cases h⟩
end Go.Proofs.Ytfjpgficpdbelaa
