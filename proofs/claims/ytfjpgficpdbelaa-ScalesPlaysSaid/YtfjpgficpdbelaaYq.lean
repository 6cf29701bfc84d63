import Derived.Test.YtfjpgficpdbelaaYj
import Derived.Test.YtfjpgficpdbelaaHl
set_option linter.unusedSimpArgs false
set_option linter.unusedVariables false
set_option linter.unusedSectionVars false
set_option maxRecDepth 20000
namespace Go.Proofs.Ytfjpgficpdbelaa
attribute [local irreducible] QOp aL aC qL
/-! Where the points of a row stand. -/
def plS (n : Nat) (r : List Nat) : Nat → List Nat
  | 0 => List.replicate n 0
  | i + 1 => (plS n r i).set (r.getD i 0) i
theorem plS_len (n : Nat) (r : List Nat) : ∀ k, (plS n r k).length = n
  | 0 => by simp [plS]
  | k + 1 => by rw [plS, List.length_set, plS_len n r k]
theorem plS_at {n : Nat} {ns r : List Nat} (h : RowP n ns r) : ∀ k, k ≤ n → ∀ i, i < k → (plS n r k).getD (r.getD i 0) 0 = i
  | 0, _, i, hi => by omega
  | k + 1, hk, i, hi => by
    rw [plS, getD_set3 _ _ _ _ (by rw [plS_len]; exact h.pt k (by omega))]
    by_cases e : i = k
    · rw [e, if_pos rfl]
    · rw [if_neg fun q => e (h.inj _ _ (by omega) (by omega) q)]
      exact plS_at h k (by omega) i (by omega)
theorem row_mis {n : Nat} {ns r : List Nat} (h : RowN n ns r) : ∀ j, j ≤ n → mis n (rsN r j) + j = n
  | 0, _ => by rw [rsN, mis_nought, Nat.add_zero]
  | j + 1, hj => by
    have ih := row_mis h j (by omega)
    have := mis_add (mayO_not (h.may j (by omega))) (h.lt j (by omega))
    rw [rsN]
    omega
theorem row_all {n : Nat} {ns r : List Nat} (h : RowN n ns r) {p : Nat} (hp : p < n) : ∃ i, i < n ∧ r.getD i 0 = p := by
  have h1 := row_mis h n (Nat.le_refl n)
  exact (rs_bit r p n).1 (mis_zero.1 (by omega) p hp)
structure Pl (n : Nat) (r PL : List Nat) : Prop where
  lt : ∀ p, p < n → PL.getD p 0 < n
  bk : ∀ p, p < n → r.getD (PL.getD p 0) 0 = p
  at_ : ∀ i, i < n → PL.getD (r.getD i 0) 0 = i
theorem pl_of {n : Nat} {ns r : List Nat} (h : RowP n ns r) : Pl n r (plS n r n) := by
  have ha := plS_at h n (Nat.le_refl n)
  refine ⟨fun p hp => ?_, fun p hp => ?_, ha⟩
  · obtain ⟨i, hi, rfl⟩ := row_all (rowP_n h) hp; rw [ha i hi]; exact hi
  · obtain ⟨i, hi, rfl⟩ := row_all (rowP_n h) hp; rw [ha i hi]
theorem row_al {n : Nat} {ns r PL : List Nat} (hO : Od n ns) (h : RowP n ns r) (hp : Pl n r PL) {a b : Nat} (w : Wg n ns a b) (hlt : PL.getD a 0 < PL.getD b 0) : RowP n (alN n ns a b) r := by
  refine ⟨h.len, h.pt, h.inj, fun j hj x hx => ?_⟩
  have hxn := lt_lt (ofn_vld n (alB ns a b)).2 hx
  rw [al_lt hxn (h.pt j hj)] at hx
  rcases alB_iff.1 hx with hx | ⟨h1, h2⟩
  · exact h.down j hj x hx
  · have hb : PL.getD b 0 ≤ j := by
      rcases h2 with h2 | h2
      · rw [h2, hp.at_ j hj]; exact Nat.le_refl j
      · obtain ⟨i, hi, he⟩ := h.down j hj b h2
        rw [← he, hp.at_ i (by omega)]; omega
    rcases h1 with h1 | h1
    · exact ⟨PL.getD a 0, by omega, by rw [hp.bk a w.ha, h1]⟩
    · obtain ⟨i, hi, he⟩ := h.down (PL.getD a 0) (hp.lt a w.ha) x (by rw [hp.bk a w.ha]; exact h1)
      exact ⟨i, by omega, he⟩
/-- Of a line there is one row alone. -/
theorem line_row {n : Nat} {ns r r' : List Nat} (hl : frL n ns = []) (h : RowN n ns r) (h' : RowN n ns r') : r = r' := by
  have key : ∀ j, j ≤ n → ∀ i, i < j → r.getD i 0 = r'.getD i 0 := by
    intro j
    induction j with
    | zero => intro _ i hi; omega
    | succ j ih =>
      intro hj i hi
      by_cases e : i = j
      · subst e
        have hs := rs_ext i (ih (by omega))
        have h1 := h.may i (by omega)
        have h2 := h'.may i (by omega)
        rw [← hs] at h2
        exact line_may hl (h.lt i (by omega)) (h'.lt i (by omega)) h1 h2
      · exact ih (by omega) i (by omega)
  refine nat_ext (by rw [h.len, h'.len]) fun j hj => ?_
  rw [h.len] at hj
  exact key n (Nat.le_refl n) j hj
/-! The weighings. -/
def trnP (PL : List Nat) (p : Nat × Nat) : Nat × Nat := if PL.getD p.1 0 > PL.getD p.2 0 then (p.2, p.1) else p
def plP (n : Nat) (PL ns : List Nat) : Nat × Nat := trnP PL ((wbst n ns).getD (0, 0))
def plN (n : Nat) (PL ns : List Nat) : Nat → List Nat
  | 0 => ns
  | k + 1 => alN n (plN n PL ns k) (plP n PL (plN n PL ns k)).1 (plP n PL (plN n PL ns k)).2
def plL (n : Nat) (PL ns : List Nat) (k : Nat) : List (Nat × Nat) := (List.range k).map fun j => plP n PL (plN n PL ns j)
theorem plL_succ (n : Nat) (PL ns : List Nat) (k : Nat) : plL n PL ns (k + 1) = plL n PL ns k ++ [plP n PL (plN n PL ns k)] := by unfold plL; rw [List.range_succ, List.map_append]; rfl
theorem plL_len (n : Nat) (PL ns : List Nat) (k : Nat) : (plL n PL ns k).length = k := by simp [plL]
theorem plL_get {n : Nat} {PL ns : List Nat} {k i : Nat} (h : i < k) : (plL n PL ns k).getD i (0, 0) = plP n PL (plN n PL ns i) := by
  unfold plL
  rw [List.getD_eq_getElem?_getD, List.getElem?_map, List.getElem?_range h]; rfl
/-- One weighing. -/
theorem pl_step {n : Nat} {ns r PL : List Nat} (hO : Od n ns) (h : RowP n ns r) (hp : Pl n r PL) {p : Nat × Nat} (hb : wbst n ns = some p) :
    Wg n ns (plP n PL ns).1 (plP n PL ns).2 ∧ PL.getD (plP n PL ns).1 0 < PL.getD (plP n PL ns).2 0 ∧ cost n (alN n ns (plP n PL ns).1 (plP n PL ns).2) + 1 ≤ cost n ns := by
  obtain ⟨h1, h2⟩ := wbst_some hb
  have w := frL_wg h1
  have e : plP n PL ns = trnP PL p := by unfold plP; rw [hb]; rfl
  have hne : PL.getD p.1 0 ≠ PL.getD p.2 0 := fun q => w.hab (by rw [← hp.bk p.1 w.ha, ← hp.bk p.2 w.hb, q])
  rw [e]
  unfold wgh at h2
  unfold trnP
  split
  · exact ⟨w.swap, by dsimp only; omega, by dsimp only; omega⟩
  · exact ⟨w, by omega, by omega⟩
structure PlS (n : Nat) (r PL ns : List Nat) (k : Nat) : Prop where
  od : Od n (plN n PL ns k)
  row : RowP n (plN n PL ns k) r
  cst : cost n (plN n PL ns k) + k ≤ cost n ns
  rw_ : rwN n (plN n PL ns k) ≤ rwN n ns
theorem pl_inv {n : Nat} {ns r PL : List Nat} (hO : Od n ns) (h : RowP n ns r) (hp : Pl n r PL) : ∀ k, (∀ j, j < k → wbst n (plN n PL ns j) ≠ none) → PlS n r PL ns k
  | 0, _ => ⟨hO, h, Nat.le_refl _, Nat.le_refl _⟩
  | k + 1, hs => by
    have ih := pl_inv hO h hp k fun j hj => hs j (by omega)
    cases hb : wbst n (plN n PL ns k) with
    | none => exact absurd hb (hs k (by omega))
    | some p =>
      obtain ⟨w, h1, h2⟩ := pl_step ih.od ih.row hp hb
      have h3 := ih.cst
      have h4 := w.rw_lt ih.od
      have h5 := ih.rw_
      exact ⟨w.od ih.od, row_al ih.od ih.row hp w h1, by show cost n (alN n _ _ _) + (k + 1) ≤ _; omega, by show rwN n (alN n _ _ _) ≤ _; omega⟩
/-- It comes to an end. -/
theorem pl_end {n : Nat} {ns r PL : List Nat} (hO : Od n ns) (h : RowP n ns r) (hp : Pl n r PL) : ∃ K, K ≤ cost n ns ∧ (∀ j, j < K → wbst n (plN n PL ns j) ≠ none) ∧ wbst n (plN n PL ns K) = none := by
  have key : ∀ d k, cost n (plN n PL ns k) ≤ d → (∀ j, j < k → wbst n (plN n PL ns j) ≠ none) → ∃ K, (∀ j, j < K → wbst n (plN n PL ns j) ≠ none) ∧ wbst n (plN n PL ns K) = none := by
    intro d
    induction d with
    | zero =>
      intro k hc hs
      have ih := pl_inv hO h hp k hs
      refine ⟨k, hs, ?_⟩
      cases hb : wbst n (plN n PL ns k) with
      | none => rfl
      | some p => have := (pl_step ih.od ih.row hp hb).2.2; omega
    | succ d ihd =>
      intro k hc hs
      have ih := pl_inv hO h hp k hs
      cases hb : wbst n (plN n PL ns k) with
      | none => exact ⟨k, hs, hb⟩
      | some p =>
        have h2 := (pl_step ih.od ih.row hp hb).2.2
        refine ihd (k + 1) (by show cost n (alN n _ _ _) ≤ d; omega) fun j hj => ?_
        by_cases e : j = k
        · rw [e, hb]; exact fun q => by cases q
        · exact hs j (by omega)
  obtain ⟨K, h1, h2⟩ := key _ 0 (Nat.le_refl _) fun j hj => absurd hj (Nat.not_lt_zero _)
  exact ⟨K, by have := (pl_inv hO h hp K h1).cst; omega, h1, h2⟩
theorem pl_row {n : Nat} {ns r PL : List Nat} {K : Nat} (hI : PlS n r PL ns K) (hb : wbst n (plN n PL ns K) = none) : nthN n (plN n PL ns K) 0 = r :=
  line_row ((wbst_none hI.od).1 hb) (nth_ok (rw_pos hI.od)).row (rowP_n hI.row)
/-- What the keeper keeps meanwhile. -/
def plM (n f : Nat) (PL ns : List Nat) : Nat → ScM
  | 0 => []
  | k + 1 => bsE n f (plN n PL ns k) (plM n f PL ns k)
theorem plM_ok {n : Nat} {ns r PL : List Nat} (hO : Od n ns) (h : RowP n ns r) (hp : Pl n r PL) : ∀ k, (∀ j, j < k → wbst n (plN n PL ns j) ≠ none) → ScI n (plM n (rwN n ns) PL ns k)
  | 0, _ => scI_nil n
  | k + 1, hs => by
    have ih := plM_ok hO h hp k fun j hj => hs j (by omega)
    have hI := pl_inv hO h hp k fun j hj => hs j (by omega)
    exact bsM_ok hI.od hI.rw_ ih _ (Nat.min_le_right _ _)
end Go.Proofs.Ytfjpgficpdbelaa
