import Derived.Test.YtgojkabjgagjcaaGu
import Derived.Test.YtgojkabjgagjcaaIp
import Derived.Test.YtgojkabjgagjcaaCd
import Derived.Test.YtgojkabjgagjcaaEngZf
set_option linter.unusedSimpArgs false
set_option linter.unusedVariables false
set_option linter.unusedSectionVars false
set_option maxRecDepth 20000
namespace Go.Proofs.Ytgojkabjgagjcaa
attribute [local irreducible] QOp aL aC qL
/-- The set of the first of a list. -/
def rsN (l : List Nat) : Nat → Nat
  | 0 => 0
  | k + 1 => rsN l k ||| 2 ^ l.getD k 0
def okAt (n : Nat) (ns : List Nat) (l : List Int) (j : Nat) : Bool := (decide (0 ≤ l.getD j 0) && decide (l.getD j 0 < (n : Int))) && mayO ns (rsN (l.map Int.toNat) j) (l.getD j 0).toNat
def isRow (n : Nat) (ns : List Nat) (l : List Int) : Bool := (List.range l.length).all (okAt n ns l) && decide (l.length = n)
theorem isRow_all {n : Nat} {ns : List Nat} {l : List Int} (h : ∀ j, j < l.length → okAt n ns l j = true) : isRow n ns l = decide (l.length = n) := by
  unfold isRow
  rw [List.all_eq_true.2 fun j hj => h j (List.mem_range.1 hj), Bool.true_and]
theorem map_getI (l : List Int) (q : Nat) : (l.map Int.toNat).getD q 0 = (l.getD q 0).toNat := by
  simp only [List.getD_eq_getElem?_getD, List.getElem?_map]
  cases l[q]? <;> rfl
theorem isRow_iff {n : Nat} {ns : List Nat} {l : List Int} (h : isRow n ns l = true) : l.length = n ∧ ∀ j, j < n → (0 ≤ l.getD j 0 ∧ l.getD j 0 < (n : Int)) ∧ mayO ns (rsN (l.map Int.toNat) j) (l.getD j 0).toNat = true := by
  unfold isRow at h
  rw [Bool.and_eq_true, decide_eq_true_eq, List.all_eq_true] at h
  refine ⟨h.2, fun j hj => ?_⟩
  have := h.1 j (List.mem_range.2 (by omega))
  unfold okAt at this
  rw [Bool.and_eq_true, Bool.and_eq_true, decide_eq_true_eq, decide_eq_true_eq] at this
  exact this
/-- A row told in numbers that are not negative. -/
structure RowN (n : Nat) (ns : List Nat) (l : List Nat) : Prop where
  len : l.length = n
  lt : ∀ j, j < n → l.getD j 0 < n
  may : ∀ j, j < n → mayO ns (rsN l j) (l.getD j 0) = true
theorem isRow_nat {n : Nat} {ns : List Nat} {l : List Int} (h : isRow n ns l = true) : ∃ r : List Nat, l = nl r ∧ RowN n ns r := by
  obtain ⟨h1, h2⟩ := isRow_iff h
  refine ⟨l.map Int.toNat, ?_, by simpa using h1, fun j hj => ?_, fun j hj => ?_⟩
  · unfold nl
    rw [List.map_map]
    apply List.ext_getElem
    · simp
    · intro i hi hi2
      have := (h2 i (by omega)).1
      rw [List.getD_eq_getElem?_getD, List.getElem?_eq_getElem hi] at this
      simp at this ⊢
      omega
  · rw [map_getI]; have := (h2 j hj).1; omega
  · rw [map_getI]; exact (h2 j hj).2
theorem rs_lt {n : Nat} {ns l : List Nat} (h : RowN n ns l) : ∀ j, j ≤ n → rsN l j < 2 ^ n
  | 0, _ => Nat.pow_pos (by decide)
  | j + 1, hj => Nat.or_lt_two_pow (rs_lt h j (by omega)) (Nat.pow_lt_pow_right (by decide) (h.lt j (by omega)))
end Go.Proofs.Ytgojkabjgagjcaa
set_option linter.unusedSimpArgs false
set_option linter.unusedVariables false
set_option linter.unusedSectionVars false
set_option maxRecDepth 20000
namespace Go.Proofs.Ytgojkabjgagjcaa
attribute [local irreducible] QOp aL aC qL
attribute [local irreducible] FOp POp hL xH
/-- May two neighbours change their places? -/
def swB (ns l : List Nat) (k : Nat) : Bool := !lt ns (l.getD k 0) (l.getD (k + 1) 0) && !lt ns (l.getD (k + 1) 0) (l.getD k 0)
def swN (ns l : List Nat) (k : Nat) : List Nat := if swB ns l k = true then (l.set k (l.getD (k + 1) 0)).set (k + 1) (l.getD k 0) else l
theorem swN_len (ns l : List Nat) (k : Nat) : (swN ns l k).length = l.length := by
  unfold swN; split <;> simp
/-- All of a row are points. -/
def Pts (n : Nat) (l : List Nat) : Prop := l.length = n ∧ ∀ j, j < n → l.getD j 0 < n
theorem Pts.sw {n k : Nat} {ns l : List Nat} (h : Pts n l) (hk : k + 1 < n) : Pts n (swN ns l k) := by
  refine ⟨by rw [swN_len]; exact h.1, fun j hj => ?_⟩
  unfold swN
  split
  · have h1 := h.2 k (by omega)
    have h2 := h.2 (k + 1) hk
    have h3 := h.2 j hj
    have hl := h.1
    simp only [List.getD_eq_getElem?_getD] at *
    by_cases e1 : k + 1 = j
    · subst e1
      rw [List.getElem?_set_self (by rw [List.length_set]; omega)]; exact h1
    · rw [List.getElem?_set_ne e1]
      by_cases e2 : k = j
      · subst e2
        rw [List.getElem?_set_self (by omega)]; exact h2
      · rw [List.getElem?_set_ne e2]; exact h3
  · exact h.2 j hj
def upN (ns l : List Nat) : Nat → List Nat
  | 0 => l
  | k + 1 => swN ns (upN ns l k) k
theorem Pts.up {n : Nat} {ns l : List Nat} (h : Pts n l) : ∀ k, k + 1 ≤ n → Pts n (upN ns l k)
  | 0, _ => h
  | k + 1, hk => (Pts.up h k (by omega)).sw (by omega)
end Go.Proofs.Ytgojkabjgagjcaa
set_option linter.unusedSimpArgs false
set_option linter.unusedVariables false
set_option linter.unusedSectionVars false
set_option maxRecDepth 20000
namespace Go.Proofs.Ytgojkabjgagjcaa
attribute [local irreducible] QOp aL aC qL
attribute [local irreducible] FOp POp hL xH zL
/-- What the reference swaps: those of which the first is not below the second. -/
def swR (ns l : List Nat) (k : Nat) : List Nat := if lt ns (l.getD k 0) (l.getD (k + 1) 0) = true then l else (l.set k (l.getD (k + 1) 0)).set (k + 1) (l.getD k 0)
theorem swR_len (ns l : List Nat) (k : Nat) : (swR ns l k).length = l.length := by
  unfold swR; split <;> simp
theorem Pts.swR {n k : Nat} {ns l : List Nat} (h : Pts n l) (hk : k + 1 < n) : Pts n (swR ns l k) := by
  refine ⟨by rw [swR_len]; exact h.1, fun j hj => ?_⟩
  unfold Go.Proofs.Ytgojkabjgagjcaa.swR
  split
  · exact h.2 j hj
  · have h1 := h.2 k (by omega)
    have h2 := h.2 (k + 1) hk
    have h3 := h.2 j hj
    have hl := h.1
    simp only [List.getD_eq_getElem?_getD] at *
    by_cases e1 : k + 1 = j
    · subst e1
      rw [List.getElem?_set_self (by rw [List.length_set]; omega)]; exact h1
    · rw [List.getElem?_set_ne e1]
      by_cases e2 : k = j
      · subst e2
        rw [List.getElem?_set_self (by omega)]; exact h2
      · rw [List.getElem?_set_ne e2]; exact h3
def upR (ns l : List Nat) : Nat → List Nat
  | 0 => l
  | k + 1 => swR ns (upR ns l k) k
theorem Pts.upR {n : Nat} {ns l : List Nat} (h : Pts n l) : ∀ k, k + 1 ≤ n → Pts n (upR ns l k)
  | 0, _ => h
  | k + 1, hk => (Pts.upR h k (by omega)).swR (by omega)
end Go.Proofs.Ytgojkabjgagjcaa
set_option linter.unusedSimpArgs false
set_option linter.unusedVariables false
set_option linter.unusedSectionVars false
set_option maxRecDepth 20000
namespace Go.Proofs.Ytgojkabjgagjcaa
attribute [local irreducible] QOp aL aC qL
theorem rs_bit (l : List Nat) (x : Nat) : ∀ j, (rsN l j).testBit x = true ↔ ∃ i, i < j ∧ l.getD i 0 = x
  | 0 => by
    rw [rsN, Nat.zero_testBit]
    exact ⟨fun h => (Bool.false_ne_true h).elim, fun ⟨i, h, _⟩ => (Nat.not_lt_zero i h).elim⟩
  | j + 1 => by
    rw [rsN, Nat.testBit_or, Nat.testBit_two_pow, Bool.or_eq_true, rs_bit l x j, decide_eq_true_eq]
    constructor
    · rintro (⟨i, hi, h⟩ | h)
      · exact ⟨i, by omega, h⟩
      · exact ⟨j, by omega, h⟩
    · rintro ⟨i, hi, h⟩
      by_cases hij : i = j
      · subst hij; exact .inr h
      · exact .inl ⟨i, by omega, h⟩
structure RowP (n : Nat) (ns l : List Nat) : Prop where
  len : l.length = n
  pt : ∀ j, j < n → l.getD j 0 < n
  inj : ∀ i j, i < n → j < n → l.getD i 0 = l.getD j 0 → i = j
  down : ∀ j, j < n → ∀ x, lt ns x (l.getD j 0) = true → ∃ i, i < j ∧ l.getD i 0 = x
theorem rowN_p {n : Nat} {ns l : List Nat} (h : RowN n ns l) : RowP n ns l := by
  have hm : ∀ j, j < n → (∀ i, i < j → l.getD i 0 ≠ l.getD j 0) ∧ ∀ x, lt ns x (l.getD j 0) = true → ∃ i, i < j ∧ l.getD i 0 = x := by
    intro j hj
    have := h.may j hj
    unfold mayO at this
    rw [Bool.and_eq_true, Bool.not_eq_true', sub_iff] at this
    refine ⟨fun i hi he => ?_, fun x hx => ?_⟩
    · have h2 := (rs_bit l (l.getD j 0) j).2 ⟨i, hi, he⟩
      rw [this.1] at h2; cases h2
    · exact (rs_bit l x j).1 (this.2 x hx)
  refine ⟨h.len, h.lt, fun i j hi hj he => ?_, fun j hj => (hm j hj).2⟩
  rcases Nat.lt_trichotomy i j with h1 | h1 | h1
  · exact absurd he ((hm j hj).1 i h1)
  · exact h1
  · exact absurd he.symm ((hm i hi).1 j h1)
theorem rowP_n {n : Nat} {ns l : List Nat} (h : RowP n ns l) : RowN n ns l := by
  refine ⟨h.len, h.pt, fun j hj => ?_⟩
  unfold mayO
  rw [Bool.and_eq_true, Bool.not_eq_true', sub_iff]
  refine ⟨?_, fun x hx => (rs_bit l x j).2 (h.down j hj x hx)⟩
  cases hq : (rsN l j).testBit (l.getD j 0)
  · rfl
  · obtain ⟨i, hi, he⟩ := (rs_bit l _ j).1 hq
    have := h.inj i j (by omega) hj he
    omega
theorem sw_get {l : List Nat} {k a b : Nat} (hk : k + 1 < l.length) (j : Nat) : ((l.set k b).set (k + 1) a).getD j 0 = if j = k + 1 then a else if j = k then b else l.getD j 0 := by
  simp only [List.getD_eq_getElem?_getD]
  by_cases e1 : j = k + 1
  · subst e1
    rw [if_pos rfl, List.getElem?_set_self (by rw [List.length_set]; omega)]; rfl
  · rw [if_neg e1, List.getElem?_set_ne (Ne.symm e1)]
    by_cases e2 : j = k
    · subst e2
      rw [if_pos rfl, List.getElem?_set_self (by omega)]; rfl
    · rw [if_neg e2, List.getElem?_set_ne (Ne.symm e2)]
theorem RowP.sw {n k : Nat} {ns l : List Nat} (h : RowP n ns l) (hk : k + 1 < n) (hq : lt ns (l.getD k 0) (l.getD (k + 1) 0) = false) : RowP n ns ((l.set k (l.getD (k + 1) 0)).set (k + 1) (l.getD k 0)) := by
  have hl := h.len
  have hg := sw_get (l := l) (k := k) (a := l.getD k 0) (b := l.getD (k + 1) 0) (by omega)
  have hgk := hg k
  have hgk1 := hg (k + 1)
  rw [if_neg (by omega), if_pos rfl] at hgk
  rw [if_pos rfl] at hgk1
  have hgo : ∀ j, j ≠ k → j ≠ k + 1 → ((l.set k (l.getD (k + 1) 0)).set (k + 1) (l.getD k 0)).getD j 0 = l.getD j 0 := fun j h1 h2 => by rw [hg j, if_neg h2, if_neg h1]
  have hlen : ((l.set k (l.getD (k + 1) 0)).set (k + 1) (l.getD k 0)).length = n := by simp [hl]
  clear hg
  generalize (l.set k (l.getD (k + 1) 0)).set (k + 1) (l.getD k 0) = l' at *
  -- the place where it was
  have hτ : ∀ j, j < n → ∃ j', j' < n ∧ l'.getD j 0 = l.getD j' 0 ∧ ((j = k ∧ j' = k + 1) ∨ (j = k + 1 ∧ j' = k) ∨ (j ≠ k ∧ j ≠ k + 1 ∧ j' = j)) := by
    intro j hj
    by_cases e1 : j = k
    · subst e1; exact ⟨j + 1, hk, hgk, .inl ⟨rfl, rfl⟩⟩
    · by_cases e2 : j = k + 1
      · subst e2; exact ⟨k, by omega, hgk1, .inr (.inl ⟨rfl, rfl⟩)⟩
      · exact ⟨j, hj, hgo j e1 e2, .inr (.inr ⟨e1, e2, rfl⟩)⟩
  refine ⟨hlen, fun j hj => ?_, fun i j hi hj he => ?_, fun j hj x hx => ?_⟩
  · obtain ⟨j', h1, h2, _⟩ := hτ j hj
    rw [h2]; exact h.pt j' h1
  · obtain ⟨i', h1, h2, h3⟩ := hτ i hi
    obtain ⟨j', h4, h5, h6⟩ := hτ j hj
    rw [h2, h5] at he
    have := h.inj i' j' h1 h4 he
    omega
  · obtain ⟨j', h1, h2, h3⟩ := hτ j hj
    rw [h2] at hx
    obtain ⟨i, hi, hix⟩ := h.down j' h1 x hx
    by_cases e1 : i = k
    · subst e1
      rcases h3 with ⟨e2, e3⟩ | ⟨e2, e3⟩ | ⟨e2, e3, e4⟩
      · subst e3
        rw [hix] at hq
        rw [hq] at hx; cases hx
      · omega
      · exact ⟨i + 1, by omega, by rw [hgk1]; exact hix⟩
    · by_cases e2 : i = k + 1
      · subst e2
        rcases h3 with ⟨e3, e4⟩ | ⟨e3, e4⟩ | ⟨e3, e4, e5⟩
        · omega
        · omega
        · exact ⟨k, by omega, by rw [hgk]; exact hix⟩
      · exact ⟨i, by omega, by rw [hgo i e1 e2]; exact hix⟩
theorem RowP.sw_eq {n k : Nat} {ns l : List Nat} (h : RowP n ns l) (hk : k + 1 < n) : swN ns l k = swR ns l k ∧ RowP n ns (swN ns l k) := by
  have hb : lt ns (l.getD (k + 1) 0) (l.getD k 0) = false := by
    cases hq : lt ns (l.getD (k + 1) 0) (l.getD k 0)
    · rfl
    · obtain ⟨i, hi, he⟩ := h.down k (by omega) _ hq
      have := h.inj i (k + 1) (by omega) hk he
      omega
  unfold swN swR swB
  rw [hb]
  cases hq : lt ns (l.getD k 0) (l.getD (k + 1) 0)
  · exact ⟨by simp, by simpa using h.sw hk hq⟩
  · exact ⟨by simp, by simpa using h⟩
theorem RowP.up_eq {n : Nat} {ns l : List Nat} (h : RowP n ns l) : ∀ m, m + 1 ≤ n → upN ns l m = upR ns l m ∧ RowP n ns (upN ns l m)
  | 0, _ => ⟨rfl, h⟩
  | m + 1, hm => by
    obtain ⟨h1, h2⟩ := RowP.up_eq h m (by omega)
    obtain ⟨h3, h4⟩ := h2.sw_eq (k := m) (by omega)
    exact ⟨by show swN ns (upN ns l m) m = swR ns (upR ns l m) m; rw [← h1]; exact h3, h4⟩
/-- A row promoted, again and again. -/
def itN (n : Nat) (ns l : List Nat) : Nat → List Nat
  | 0 => l
  | j + 1 => upN ns (itN n ns l j) (n - 1)
theorem RowP.up1 {n : Nat} {ns l : List Nat} (h : RowP n ns l) : upN ns l (n - 1) = upR ns l ((n : Int) - 1).toNat ∧ RowP n ns (upN ns l (n - 1)) := by
  rcases Nat.eq_zero_or_pos n with h0 | h0
  · subst h0; exact ⟨rfl, h⟩
  · have := h.up_eq (n - 1) (by omega)
    rw [show ((n : Int) - 1).toNat = n - 1 by omega]
    exact this
theorem RowP.it {n : Nat} {ns l : List Nat} (h : RowP n ns l) : ∀ j, RowP n ns (itN n ns l j)
  | 0 => h
  | j + 1 => (RowP.it h j).up1.2
end Go.Proofs.Ytgojkabjgagjcaa
set_option linter.unusedSimpArgs false
set_option linter.unusedVariables false
set_option linter.unusedSectionVars false
set_option maxRecDepth 20000
namespace Go.Proofs.Ytgojkabjgagjcaa
attribute [local irreducible] QOp aL aC qL
def rkT (n : Nat) (ns r : List Nat) (i : Nat) : Nat := sumTo (term n (mayO ns) (rsN r i)) (r.getD i 0)
def rkN (n : Nat) (ns r : List Nat) (i : Nat) : Nat := sumTo (rkT n ns r) i
end Go.Proofs.Ytgojkabjgagjcaa
