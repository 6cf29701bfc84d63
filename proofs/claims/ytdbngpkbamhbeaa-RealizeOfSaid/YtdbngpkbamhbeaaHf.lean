import Derived.Test.YtdbngpkbamhbeaaHk
set_option linter.unusedSimpArgs false
set_option linter.unusedVariables false
set_option linter.unusedSectionVars false
set_option maxRecDepth 20000
namespace Go.Proofs.Ytdbngpkbamhbeaa
attribute [local irreducible] QOp aL aC qL
theorem rs_bit (l : List Nat) (x : Nat) : ∀ j, (rsN l j).testBit x = true ↔ ∃ i, i < j ∧ l.getD i 0 = x
  | 0 => by
    rw [rsN, Nat.zero_testBit]
    exact ⟨fun h => (Bool.false_ne_true h).elim, fun ⟨i, h, _⟩ => (Nat.not_lt_zero i h).elim⟩
  | j + 1 => by
    rw [rsN, Nat.testBit_or, Nat.testBit_two_pow, Bool.or_eq_true, rs_bit l x j, decide_eq_true_eq]
    constructor
    · rintro (⟨i, hi, h⟩ | h)
      · exact ⟨i, by omega, h⟩
      · exact ⟨j, by omega, h⟩
    · rintro ⟨i, hi, h⟩
      by_cases hij : i = j
      · subst hij; exact .inr h
      · exact .inl ⟨i, by omega, h⟩
structure RowP (n : Nat) (ns l : List Nat) : Prop where
  len : l.length = n
  pt : ∀ j, j < n → l.getD j 0 < n
  inj : ∀ i j, i < n → j < n → l.getD i 0 = l.getD j 0 → i = j
  down : ∀ j, j < n → ∀ x, lt ns x (l.getD j 0) = true → ∃ i, i < j ∧ l.getD i 0 = x
theorem rowN_p {n : Nat} {ns l : List Nat} (h : RowN n ns l) : RowP n ns l := by
  have hm : ∀ j, j < n → (∀ i, i < j → l.getD i 0 ≠ l.getD j 0) ∧ ∀ x, lt ns x (l.getD j 0) = true → ∃ i, i < j ∧ l.getD i 0 = x := by
    intro j hj
    have := h.may j hj
    unfold mayO at this
    rw [Bool.and_eq_true, Bool.not_eq_true', sub_iff] at this
    refine ⟨fun i hi he => ?_, fun x hx => ?_⟩
    · have h2 := (rs_bit l (l.getD j 0) j).2 ⟨i, hi, he⟩
      rw [this.1] at h2; cases h2
    · exact (rs_bit l x j).1 (this.2 x hx)
  refine ⟨h.len, h.lt, fun i j hi hj he => ?_, fun j hj => (hm j hj).2⟩
  rcases Nat.lt_trichotomy i j with h1 | h1 | h1
  · exact absurd he ((hm j hj).1 i h1)
  · exact h1
  · exact absurd he.symm ((hm i hi).1 j h1)
theorem rowP_n {n : Nat} {ns l : List Nat} (h : RowP n ns l) : RowN n ns l := by
  refine ⟨h.len, h.pt, fun j hj => ?_⟩
  unfold mayO
  rw [Bool.and_eq_true, Bool.not_eq_true', sub_iff]
  refine ⟨?_, fun x hx => (rs_bit l x j).2 (h.down j hj x hx)⟩
  cases hq : (rsN l j).testBit (l.getD j 0)
  · rfl
  · obtain ⟨i, hi, he⟩ := (rs_bit l _ j).1 hq
    have := h.inj i j (by omega) hj he
    omega
theorem sw_get {l : List Nat} {k a b : Nat} (hk : k + 1 < l.length) (j : Nat) : ((l.set k b).set (k + 1) a).getD j 0 = if j = k + 1 then a else if j = k then b else l.getD j 0 := by
  simp only [List.getD_eq_getElem?_getD]
  by_cases e1 : j = k + 1
  · subst e1
    rw [if_pos rfl, List.getElem?_set_self (by rw [List.length_set]; omega)]; rfl
  · rw [if_neg e1, List.getElem?_set_ne (Ne.symm e1)]
    by_cases e2 : j = k
    · subst e2
      rw [if_pos rfl, List.getElem?_set_self (by omega)]; rfl
    · rw [if_neg e2, List.getElem?_set_ne (Ne.symm e2)]
theorem RowP.sw {n k : Nat} {ns l : List Nat} (h : RowP n ns l) (hk : k + 1 < n) (hq : lt ns (l.getD k 0) (l.getD (k + 1) 0) = false) : RowP n ns ((l.set k (l.getD (k + 1) 0)).set (k + 1) (l.getD k 0)) := by
  have hl := h.len
  have hg := sw_get (l := l) (k := k) (a := l.getD k 0) (b := l.getD (k + 1) 0) (by omega)
  have hgk := hg k
  have hgk1 := hg (k + 1)
  rw [if_neg (by omega), if_pos rfl] at hgk
  rw [if_pos rfl] at hgk1
  have hgo : ∀ j, j ≠ k → j ≠ k + 1 → ((l.set k (l.getD (k + 1) 0)).set (k + 1) (l.getD k 0)).getD j 0 = l.getD j 0 := fun j h1 h2 => by rw [hg j, if_neg h2, if_neg h1]
  have hlen : ((l.set k (l.getD (k + 1) 0)).set (k + 1) (l.getD k 0)).length = n := by simp [hl]
  clear hg
  generalize (l.set k (l.getD (k + 1) 0)).set (k + 1) (l.getD k 0) = l' at *
  -- the place where it was
  have hτ : ∀ j, j < n → ∃ j', j' < n ∧ l'.getD j 0 = l.getD j' 0 ∧ ((j = k ∧ j' = k + 1) ∨ (j = k + 1 ∧ j' = k) ∨ (j ≠ k ∧ j ≠ k + 1 ∧ j' = j)) := by
    intro j hj
    by_cases e1 : j = k
    · subst e1; exact ⟨j + 1, hk, hgk, .inl ⟨rfl, rfl⟩⟩
    · by_cases e2 : j = k + 1
      · subst e2; exact ⟨k, by omega, hgk1, .inr (.inl ⟨rfl, rfl⟩)⟩
      · exact ⟨j, hj, hgo j e1 e2, .inr (.inr ⟨e1, e2, rfl⟩)⟩
  refine ⟨hlen, fun j hj => ?_, fun i j hi hj he => ?_, fun j hj x hx => ?_⟩
  · obtain ⟨j', h1, h2, _⟩ := hτ j hj
    rw [h2]; exact h.pt j' h1
  · obtain ⟨i', h1, h2, h3⟩ := hτ i hi
    obtain ⟨j', h4, h5, h6⟩ := hτ j hj
    rw [h2, h5] at he
    have := h.inj i' j' h1 h4 he
    omega
  · obtain ⟨j', h1, h2, h3⟩ := hτ j hj
    rw [h2] at hx
    obtain ⟨i, hi, hix⟩ := h.down j' h1 x hx
    by_cases e1 : i = k
    · subst e1
      rcases h3 with ⟨e2, e3⟩ | ⟨e2, e3⟩ | ⟨e2, e3, e4⟩
      · subst e3
        rw [hix] at hq
        rw [hq] at hx; cases hx
      · omega
      · exact ⟨i + 1, by omega, by rw [hgk1]; exact hix⟩
    · by_cases e2 : i = k + 1
      · subst e2
        rcases h3 with ⟨e3, e4⟩ | ⟨e3, e4⟩ | ⟨e3, e4, e5⟩
        · omega
        · omega
        · exact ⟨k, by omega, by rw [hgk]; exact hix⟩
      · exact ⟨i, by omega, by rw [hgo i e1 e2]; exact hix⟩
theorem RowP.sw_eq {n k : Nat} {ns l : List Nat} (h : RowP n ns l) (hk : k + 1 < n) : swN ns l k = swR ns l k ∧ RowP n ns (swN ns l k) := by
  have hb : lt ns (l.getD (k + 1) 0) (l.getD k 0) = false := by
    cases hq : lt ns (l.getD (k + 1) 0) (l.getD k 0)
    · rfl
    · obtain ⟨i, hi, he⟩ := h.down k (by omega) _ hq
      have := h.inj i (k + 1) (by omega) hk he
      omega
  unfold swN swR swB
  rw [hb]
  cases hq : lt ns (l.getD k 0) (l.getD (k + 1) 0)
  · exact ⟨by simp, by simpa using h.sw hk hq⟩
  · exact ⟨by simp, by simpa using h⟩
theorem RowP.up_eq {n : Nat} {ns l : List Nat} (h : RowP n ns l) : ∀ m, m + 1 ≤ n → upN ns l m = upR ns l m ∧ RowP n ns (upN ns l m)
  | 0, _ => ⟨rfl, h⟩
  | m + 1, hm => by
    obtain ⟨h1, h2⟩ := RowP.up_eq h m (by omega)
    obtain ⟨h3, h4⟩ := h2.sw_eq (k := m) (by omega)
    exact ⟨by show swN ns (upN ns l m) m = swR ns (upR ns l m) m; rw [← h1]; exact h3, h4⟩
/-- A row promoted, again and again. -/
def itN (n : Nat) (ns l : List Nat) : Nat → List Nat
  | 0 => l
  | j + 1 => upN ns (itN n ns l j) (n - 1)
theorem RowP.up1 {n : Nat} {ns l : List Nat} (h : RowP n ns l) : upN ns l (n - 1) = upR ns l ((n : Int) - 1).toNat ∧ RowP n ns (upN ns l (n - 1)) := by
  rcases Nat.eq_zero_or_pos n with h0 | h0
  · subst h0; exact ⟨rfl, h⟩
  · have := h.up_eq (n - 1) (by omega)
    rw [show ((n : Int) - 1).toNat = n - 1 by omega]
    exact this
theorem RowP.it {n : Nat} {ns l : List Nat} (h : RowP n ns l) : ∀ j, RowP n ns (itN n ns l j)
  | 0 => h
  | j + 1 => (RowP.it h j).up1.2
end Go.Proofs.Ytdbngpkbamhbeaa
set_option linter.unusedSimpArgs false
set_option linter.unusedVariables false
set_option linter.unusedSectionVars false
set_option maxRecDepth 20000
namespace Go.Proofs.Ytdbngpkbamhbeaa
attribute [local irreducible] QOp aL aC qL
def rkT (n : Nat) (ns r : List Nat) (i : Nat) : Nat := sumTo (term n (mayO ns) (rsN r i)) (r.getD i 0)
def rkN (n : Nat) (ns r : List Nat) (i : Nat) : Nat := sumTo (rkT n ns r) i
end Go.Proofs.Ytdbngpkbamhbeaa
