/- Heaps are an order; a letter changed for lesser ones makes a lighter heap (plain). -/
import Derived.Test.YteingglnhmfieaaIj
set_option linter.unusedSimpArgs false
set_option linter.unusedVariables false
namespace Go.Proofs.Yteingglnhmfieaa
attribute [local irreducible] QOp aL aC qL
/-- How often a letter is in a word. -/
def ct (a : List Nat) (x : Nat) : Nat := cw a x a.length
theorem lg_iff {n : Nat} {ns a b : List Nat} : lgB n ns a b = true ↔ (∀ x, x < n → ct b x < ct a x → ∃ y, y < n ∧ ct a y < ct b y ∧ lt ns x y = true) ∧ ∃ x, x < n ∧ ct a x ≠ ct b x := by
  unfold lgB
  rw [Bool.and_eq_true, List.all_eq_true, anyN_iff]
  constructor
  · rintro ⟨h1, x, hx, h2⟩
    refine ⟨fun x hx hlt => ?_, x, hx, ?_⟩
    · have := h1 x (List.mem_range.2 hx)
      unfold okL at this
      rw [Bool.or_eq_true] at this
      rcases this with h3 | h3
      · rw [Bool.not_eq_true', decide_eq_false_iff_not] at h3
        exact absurd hlt h3
      · obtain ⟨y, hy, h4⟩ := anyN_iff.1 h3
        unfold udB at h4
        rw [Bool.and_eq_true, decide_eq_true_eq] at h4
        exact ⟨y, hy, h4⟩
    · unfold dfL at h2
      rw [decide_eq_true_eq] at h2
      exact h2
  · rintro ⟨h1, x, hx, h2⟩
    refine ⟨fun x hx => ?_, x, hx, ?_⟩
    · rw [List.mem_range] at hx
      unfold okL
      rw [Bool.or_eq_true]
      by_cases h3 : cw b x b.length < cw a x a.length
      · obtain ⟨y, hy, h4, h5⟩ := h1 x hx h3
        refine .inr (anyN_iff.2 ⟨y, hy, ?_⟩)
        unfold udB
        rw [Bool.and_eq_true, decide_eq_true_eq]
        exact ⟨h4, h5⟩
      · exact .inl (by rw [Bool.not_eq_true', decide_eq_false_iff_not]; exact h3)
    · unfold dfL
      rw [decide_eq_true_eq]
      exact h2
theorem lg_irr {n : Nat} {ns a : List Nat} : lgB n ns a a = false := by
  cases h : lgB n ns a a
  · rfl
  · obtain ⟨_, x, _, h2⟩ := lg_iff.1 h
    exact absurd rfl h2
theorem highest {n : Nat} {ns : List Nat} (hok : okB n ns = true) {T : Nat → Prop} : ∀ c z, z < n → cnE (fun w => lt ns z w) n ≤ c → T z → ∃ y, y < n ∧ (y = z ∨ lt ns z y = true) ∧ T y ∧ ∀ w, w < n → lt ns y w = true → ¬ T w := by
  intro c
  induction c using Nat.strongRecOn with
  | _ c ih =>
    intro z hz hc hT
    by_cases hex : ∃ w, w < n ∧ lt ns z w = true ∧ T w
    · obtain ⟨w, hw, h1, h2⟩ := hex
      have hlt : cnE (fun v => lt ns w v) n < cnE (fun v => lt ns z v) n := by
        refine cnE_lt (j := w) ?_ h1 n hw fun v hv hvw => ?_
        · exact okB_irr hok hw
        · exact okB_tr hok hv hw hvw h1
      obtain ⟨y, h3, h4, h5, h6⟩ := ih _ (Nat.lt_of_lt_of_le hlt hc) w hw (Nat.le_refl _) h2
      refine ⟨y, h3, .inr ?_, h5, h6⟩
      rcases h4 with rfl | h4
      · exact h1
      · exact okB_tr hok h3 hw h4 h1
    · exact ⟨z, hz, .inl rfl, hT, fun w hw h1 h2 => hex ⟨w, hw, h1, h2⟩⟩
theorem lg_trans {n : Nat} {ns a b c : List Nat} (hok : okB n ns = true) (hab : lgB n ns a b = true) (hbc : lgB n ns b c = true) : lgB n ns a c = true := by
  obtain ⟨a1, x0, hx0, a2⟩ := lg_iff.1 hab
  obtain ⟨b1, _⟩ := lg_iff.1 hbc
  have up : ∀ z, z < n → (ct b z < ct a z ∨ ct c z < ct b z) → ∃ y, y < n ∧ lt ns z y = true ∧ (ct a y < ct b y ∨ ct b y < ct c y) := fun z hz h => by
    rcases h with h | h
    · obtain ⟨y, h1, h2, h3⟩ := a1 z hz h
      exact ⟨y, h1, h3, .inl h2⟩
    · obtain ⟨y, h1, h2, h3⟩ := b1 z hz h
      exact ⟨y, h1, h3, .inr h2⟩
  have top : ∀ z, z < n → (ct a z < ct b z ∨ ct b z < ct c z) → ∃ y, y < n ∧ (y = z ∨ lt ns z y = true) ∧ ct a y < ct c y := fun z hz h => by
    obtain ⟨y, h1, h2, h3, h4⟩ := highest hok (T := fun z => ct a z < ct b z ∨ ct b z < ct c z) _ z hz (Nat.le_refl _) h
    have h5 : ¬ (ct b y < ct a y ∨ ct c y < ct b y) := fun h5 => by
      obtain ⟨w, h6, h7, h8⟩ := up y h1 h5
      exact h4 w h6 h7 h8
    exact ⟨y, h1, h2, by omega⟩
  refine lg_iff.2 ⟨fun x hx hlt => ?_, ?_⟩
  · obtain ⟨y, h1, h2, h3⟩ := up x hx (by omega)
    obtain ⟨z, h4, h5, h6⟩ := top y h1 h3
    refine ⟨z, h4, h6, ?_⟩
    rcases h5 with rfl | h5
    · exact h2
    · exact okB_tr hok h4 h1 h5 h2
  · by_cases h : ct a x0 < ct b x0
    · obtain ⟨y, h1, _, h3⟩ := top x0 hx0 (.inl h)
      exact ⟨y, h1, by omega⟩
    · obtain ⟨y, h1, _, h3⟩ := up x0 hx0 (.inl (by omega))
      obtain ⟨z, h4, _, h6⟩ := top y h1 h3
      exact ⟨z, h4, by omega⟩
/-! A letter more. -/
theorem cw_app (a : List Nat) (z x : Nat) : ∀ j, j ≤ a.length → cw (a ++ [z]) x j = cw a x j
  | 0, _ => rfl
  | j + 1, h => by
    have e : (a ++ [z]).getD j 0 = a.getD j 0 := by
      simp only [List.getD_eq_getElem?_getD]
      rw [List.getElem?_append_left (by omega)]
    rw [cw, cw, cw_app a z x j (by omega), e]
theorem ct_snoc (a : List Nat) (z x : Nat) : ct (a ++ [z]) x = ct a x + if z = x then 1 else 0 := by
  unfold ct
  rw [List.length_append, List.length_singleton, cw, cw_app a z x a.length (Nat.le_refl _)]
  have e : (a ++ [z]).getD a.length 0 = z := by simp [List.getD_eq_getElem?_getD]
  rw [e]
  split <;> simp [*]
theorem cw_cons (z : Nat) (a : List Nat) (x : Nat) : ∀ j, cw (z :: a) x (j + 1) = cw a x j + if z = x then 1 else 0
  | 0 => by
    rw [cw]
    show (if z = x then (0 : Nat) + 1 else 0) = 0 + _
    split <;> rfl
  | j + 1 => by
    rw [cw, cw_cons z a x j, cw]
    show (if a.getD j 0 = x then _ else _) = _
    split <;> omega
theorem ct_cons (z : Nat) (a : List Nat) (x : Nat) : ct (z :: a) x = ct a x + if z = x then 1 else 0 := cw_cons z a x a.length
/-- What is put into the place of the first letter. -/
structure Hp (n : Nat) (ns : List Nat) (z : Nat) (tl h : List Nat) : Prop where
  wd : Wd n h
  ge : ∀ x, lt ns x z = false → ct h x = ct tl x
theorem Hp.start {n : Nat} {ns tl : List Nat} {z : Nat} (hw : Wd n (z :: tl)) : Hp n ns z tl tl := by
  refine ⟨⟨by have := hw.1; rw [List.length_cons] at this; omega, fun i hi => ?_⟩, fun _ _ => rfl⟩
  exact hw.2 (i + 1) (by rw [List.length_cons]; omega)
theorem Hp.step {n : Nat} {ns tl h : List Nat} {z y : Nat} (hh : Hp n ns z tl h) (hl : h.length < 12) (hy : y < n) (hlt : lt ns y z = true) : Hp n ns z tl (h ++ [y]) := by
  refine ⟨⟨by rw [List.length_append, List.length_singleton]; omega, fun i hi => ?_⟩, fun x hx => ?_⟩
  · rw [List.length_append, List.length_singleton] at hi
    simp only [List.getD_eq_getElem?_getD]
    by_cases e : i < h.length
    · rw [List.getElem?_append_left e]
      have := hh.wd.2 i e
      rw [List.getD_eq_getElem?_getD] at this
      exact this
    · have : i = h.length := by omega
      subst this
      simp; exact hy
  · rw [ct_snoc, if_neg (fun e => by rw [e, hx] at hlt; cases hlt), Nat.add_zero]
    exact hh.ge x hx
theorem Hp.lighter {n : Nat} {ns tl h : List Nat} {z : Nat} (hok : okB n ns = true) (hz : z < n) (hh : Hp n ns z tl h) : lgB n ns h (z :: tl) = true := by
  have hzz : ct h z = ct tl z := hh.ge z (okB_irr hok hz)
  have hz2 : ct (z :: tl) z = ct tl z + 1 := by rw [ct_cons, if_pos rfl]
  refine lg_iff.2 ⟨fun x hx hlt => ⟨z, hz, by omega, ?_⟩, z, hz, by omega⟩
  cases hq : lt ns x z
  · have h1 := hh.ge x hq
    have h2 := ct_cons z tl x
    exfalso
    omega
  · rfl
end Go.Proofs.Yteingglnhmfieaa
