import Derived.Test.YtbgecpjlopdkfaaDoorSra
set_option linter.unusedSimpArgs false
set_option linter.unusedVariables false
set_option linter.unusedSectionVars false
set_option maxRecDepth 20000
namespace Go.Proofs.YtbgecpjlopdkfaaDoor
attribute [local irreducible] QOp aL aC qL
/-- The entry of a table. -/
def ta (t : List (List Nat)) (x y : Nat) : Nat := (t.getD x []).getD y 0
def tn (t : List (List Nat)) : List (List Int) := t.map nl
theorem tn_len (t : List (List Nat)) : (tn t).length = t.length := by simp [tn]
theorem tn_get (t : List (List Nat)) (x : Nat) : (tn t).getD x [] = nl (t.getD x []) := by
  simp only [tn, List.getD_eq_getElem?_getD, List.getElem?_map]
  cases t[x]? <;> rfl
structure Sq (n : Nat) (t : List (List Nat)) : Prop where
  len : t.length = n
  row : ∀ x, x < n → (t.getD x []).length = n
  lt : ∀ x y, x < n → y < n → ta t x y < n
def formB (N : Int) (t : List (List Int)) : Bool := decide ((t.length : Int) = N) && !t.any fun r => decide ((r.length : Int) ≠ N)
def badI (N : Int) (x : Int) : Bool := decide (x < 0 ∨ N ≤ x)
def badR (N : Int) (r : List Int) : Bool := r.any (badI N)
/-- The laws of one table beside the other one. -/
def LawT (n : Nat) (f g : Nat → Nat → Nat) : Prop := ∀ x, x < n → f x x = x ∧ ∀ y, y < n → f x y = f y x ∧ f x (g x y) = x ∧ ∀ z, z < n → f x (f y z) = f (f x y) z
instance (n : Nat) (f g : Nat → Nat → Nat) : Decidable (LawT n f g) := by unfold LawT; infer_instance
def lawB (n : Nat) (f g : Nat → Nat → Nat) : Bool := decide (LawT n f g) && decide (LawT n g f)
def tz (m : List (List Int)) : List (List Nat) := m.map fun r => r.map Int.toNat
def lck (N : Int) (m j : List (List Int)) : Int :=
  if N < 1 ∨ 40 < N then 2 else if (formB N m && formB N j) = false then 1 else if (m ++ j).any (badR N) = true then 3 else if lawB N.toNat (ta (tz m)) (ta (tz j)) = true then 0 else 4
theorem tz_tn (t : List (List Nat)) : tz (tn t) = t := by
  unfold tz tn
  rw [List.map_map]
  conv => rhs; rw [← List.map_id t]
  refine List.map_congr_left fun r _ => ?_
  show (nl r).map Int.toNat = r
  simp [nl, Function.comp_def]
theorem formB_iff {N : Int} {t : List (List Int)} : formB N t = true ↔ (t.length : Int) = N ∧ ∀ x, x < t.length → ((t.getD x []).length : Int) = N := by
  unfold formB
  rw [Bool.and_eq_true, decide_eq_true_eq, Bool.not_eq_true', List.any_eq_false]
  refine and_congr_right fun _ => ⟨fun h x hx => ?_, fun h r hr => ?_⟩
  · have h1 := h (t.getD x []) (by rw [List.getD_eq_getElem?_getD, List.getElem?_eq_getElem hx]; exact List.getElem_mem hx)
    simpa using h1
  · obtain ⟨i, hi, rfl⟩ := List.getElem_of_mem hr
    have h1 := h i hi
    rw [List.getD_eq_getElem?_getD, List.getElem?_eq_getElem hi] at h1
    simpa using h1
theorem badR_iff {N : Int} {r : List Int} : badR N r = true ↔ ∃ y, y < r.length ∧ (r.getD y 0 < 0 ∨ N ≤ r.getD y 0) := by
  unfold badR badI
  rw [List.any_eq_true]
  constructor
  · rintro ⟨x, hx, h⟩
    obtain ⟨i, hi, rfl⟩ := List.getElem_of_mem hx
    refine ⟨i, hi, ?_⟩
    rw [List.getD_eq_getElem?_getD, List.getElem?_eq_getElem hi]
    simpa using h
  · rintro ⟨y, hy, h⟩
    refine ⟨r[y], List.getElem_mem hy, ?_⟩
    rw [List.getD_eq_getElem?_getD, List.getElem?_eq_getElem hy] at h
    simpa using h
theorem bad_iff {N : Int} {t : List (List Int)} : t.any (badR N) = true ↔ ∃ x, x < t.length ∧ ∃ y, y < (t.getD x []).length ∧ ((t.getD x []).getD y 0 < 0 ∨ N ≤ (t.getD x []).getD y 0) := by
  rw [List.any_eq_true]
  constructor
  · rintro ⟨r, hr, h⟩
    obtain ⟨i, hi, rfl⟩ := List.getElem_of_mem hr
    refine ⟨i, hi, ?_⟩
    rw [List.getD_eq_getElem?_getD, List.getElem?_eq_getElem hi]
    exact badR_iff.1 h
  · rintro ⟨x, hx, h⟩
    refine ⟨t[x], List.getElem_mem hx, ?_⟩
    rw [List.getD_eq_getElem?_getD, List.getElem?_eq_getElem hx] at h
    exact badR_iff.2 h
theorem sq_of {n : Nat} {m : List (List Int)} (hf : formB n m = true) (hv : ∀ x y, x < n → y < n → 0 ≤ (m.getD x []).getD y 0 ∧ (m.getD x []).getD y 0 < n) : ∃ M, m = tn M ∧ Sq n M := by
  obtain ⟨h1, h2⟩ := formB_iff.1 hf
  have hl : m.length = n := by omega
  have hr : ∀ x, x < n → (m.getD x []).length = n := fun x hx => by have := h2 x (by omega); omega
  have hpos : ∀ r ∈ m, ∀ x ∈ r, 0 ≤ x := fun r hr' x hx => by
    obtain ⟨i, hi, rfl⟩ := List.getElem_of_mem hr'
    obtain ⟨k, hk, rfl⟩ := List.getElem_of_mem hx
    have h3 := hr i (by omega)
    have e : m.getD i [] = m[i] := by rw [List.getD_eq_getElem?_getD, List.getElem?_eq_getElem hi]; rfl
    rw [e] at h3
    have h4 := (hv i k (by omega) (by omega)).1
    rw [e, List.getD_eq_getElem?_getD, List.getElem?_eq_getElem hk] at h4
    exact h4
  have he : m = tn (tz m) := by
    unfold tn tz
    rw [List.map_map]
    conv => lhs; rw [← List.map_id m]
    refine List.map_congr_left fun r hr' => ?_
    exact nl_of (hpos r hr')
  refine ⟨tz m, he, by unfold tz; rw [List.length_map]; exact hl, fun x hx => ?_, fun x y hx hy => ?_⟩
  · have := hr x hx
    rw [he, tn_get, nl_len] at this
    exact this
  · have := (hv x y hx hy).2
    rw [he, tn_get, nl_get] at this
    unfold ta
    omega
theorem sq_form {n : Nat} {M : List (List Nat)} (h : Sq n M) : formB n (tn M) = true := formB_iff.2 ⟨by rw [tn_len, h.len], fun x hx => by
  rw [tn_len, h.len] at hx
  rw [tn_get, nl_len, h.row x hx]⟩
theorem sq_good {n : Nat} {M : List (List Nat)} (h : Sq n M) : (tn M).any (badR n) = false := by
  rw [Bool.eq_false_iff]
  intro hb
  obtain ⟨x, hx, y, hy, hc⟩ := bad_iff.1 hb
  rw [tn_len, h.len] at hx
  rw [tn_get, nl_len, h.row x hx] at hy
  have := h.lt x y hx hy
  rw [tn_get, nl_get] at hc
  unfold ta at this
  omega
theorem lck_tn {n : Nat} {M J : List (List Nat)} (h1 : 1 ≤ n) (h2 : n ≤ 40) (hM : Sq n M) (hJ : Sq n J) : lck n (tn M) (tn J) = if lawB n (ta M) (ta J) = true then 0 else 4 := by
  unfold lck
  rw [if_neg (by omega), sq_form hM, sq_form hJ, if_neg (by decide), List.any_append, sq_good hM, sq_good hJ, if_neg (by decide), tz_tn, tz_tn]
  rfl
theorem lck_zero {N : Int} {m j : List (List Int)} (h : lck N m j = 0) : ∃ (n : Nat) (M J : List (List Nat)), N = n ∧ m = tn M ∧ j = tn J ∧ 1 ≤ n ∧ n ≤ 40 ∧ Sq n M ∧ Sq n J ∧ lawB n (ta M) (ta J) = true := by
  unfold lck at h
  by_cases h1 : N < 1 ∨ 40 < N
  · rw [if_pos h1] at h; cases h
  rw [if_neg h1] at h
  by_cases h2 : (formB N m && formB N j) = false
  · rw [if_pos h2] at h; cases h
  rw [if_neg h2] at h
  by_cases h3 : (m ++ j).any (badR N) = true
  · rw [if_pos h3] at h; cases h
  rw [if_neg h3] at h
  obtain ⟨n, rfl⟩ := Int.eq_ofNat_of_zero_le (show 0 ≤ N by omega)
  rw [Bool.not_eq_false, Bool.and_eq_true] at h2
  rw [List.any_append, Bool.or_eq_true, not_or] at h3
  have key : ∀ {t : List (List Int)}, formB n t = true → ¬ t.any (badR n) = true → ∃ M, t = tn M ∧ Sq n M := fun {t} hf hb => sq_of hf fun x y hx hy => by
    obtain ⟨l1, l2⟩ := formB_iff.1 hf
    rw [bad_iff] at hb
    have l3 := l2 x (by omega)
    by_cases hc : (t.getD x []).getD y 0 < 0 ∨ (n : Int) ≤ (t.getD x []).getD y 0
    · exact absurd ⟨x, by omega, y, by omega, hc⟩ hb
    · omega
  obtain ⟨M, rfl, hM⟩ := key h2.1 h3.1
  obtain ⟨J, rfl, hJ⟩ := key h2.2 h3.2
  refine ⟨n, M, J, rfl, rfl, rfl, by omega, by omega, hM, hJ, ?_⟩
  rw [tz_tn, tz_tn] at h
  by_cases h4 : lawB n (ta M) (ta J) = true
  · exact h4
  · rw [show (n : Int).toNat = n from rfl, if_neg h4] at h; cases h
end Go.Proofs.YtbgecpjlopdkfaaDoor
