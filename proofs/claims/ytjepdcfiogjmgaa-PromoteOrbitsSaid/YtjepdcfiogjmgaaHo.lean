/- A row that is promoted again and again comes back (plain). -/
import Derived.Test.YtjepdcfiogjmgaaHl
set_option linter.unusedSimpArgs false
set_option linter.unusedVariables false
set_option maxRecDepth 20000
namespace Go.Proofs.Ytjepdcfiogjmgaa
attribute [local irreducible] QOp aL aC qL
theorem swN_get {ns l : List Nat} {k : Nat} (hk : k + 1 < l.length) (hq : swB ns l k = true) (j : Nat) : (swN ns l k).getD j 0 = if j = k + 1 then l.getD k 0 else if j = k then l.getD (k + 1) 0 else l.getD j 0 := by
  unfold swN
  rw [if_pos hq]
  exact sw_get hk j
theorem list_eqN {a b : List Nat} (hl : a.length = b.length) (h : ∀ j, j < a.length → a.getD j 0 = b.getD j 0) : a = b := by
  apply List.ext_getElem hl
  intro i h1 h2
  have := h i h1
  rwa [List.getD_eq_getElem?_getD, List.getD_eq_getElem?_getD, List.getElem?_eq_getElem h1, List.getElem?_eq_getElem h2] at this
theorem sw_sw {ns l : List Nat} {k : Nat} (hk : k + 1 < l.length) : swN ns (swN ns l k) k = l := by
  by_cases hq : swB ns l k = true
  · have hg := swN_get (ns := ns) hk hq
    have hl := swN_len ns l k
    have h1 := hg k
    have h2 := hg (k + 1)
    rw [if_neg (by omega), if_pos rfl] at h1
    rw [if_pos rfl] at h2
    have hq2 : swB ns (swN ns l k) k = true := by
      unfold swB at hq ⊢
      rw [h1, h2, Bool.and_comm]
      exact hq
    have hg2 := swN_get (ns := ns) (l := swN ns l k) (by omega) hq2
    refine list_eqN (by rw [swN_len, swN_len]) fun j _ => ?_
    rw [hg2 j, h1, h2, hg j]
    by_cases e1 : j = k + 1
    · rw [if_pos e1, e1]
    · rw [if_neg e1]
      by_cases e2 : j = k
      · rw [if_pos e2, e2]
      · rw [if_neg e2, if_neg e1, if_neg e2]
  · have : swN ns l k = l := by unfold swN; rw [if_neg hq]
    rw [this, this]
theorem upN_len (ns l : List Nat) : ∀ m, (upN ns l m).length = l.length
  | 0 => rfl
  | m + 1 => by rw [upN, swN_len, upN_len ns l m]
theorem up_inj {n : Nat} {ns a b : List Nat} (ha : a.length = n) (hb : b.length = n) : ∀ m, m + 1 ≤ n → upN ns a m = upN ns b m → a = b
  | 0, _, h => h
  | m + 1, hm, h => by
    have h2 : swN ns (upN ns a m) m = swN ns (upN ns b m) m := h
    have h3 : swN ns (swN ns (upN ns a m) m) m = swN ns (swN ns (upN ns b m) m) m := by rw [h2]
    rw [sw_sw (by rw [upN_len]; omega), sw_sw (by rw [upN_len]; omega)] at h3
    exact up_inj ha hb m (by omega) h3
theorem up1_inj {n : Nat} {ns a b : List Nat} (ha : a.length = n) (hb : b.length = n) (h : upN ns a (n - 1) = upN ns b (n - 1)) : a = b := by
  rcases Nat.eq_zero_or_pos n with h0 | h0
  · subst h0
    rw [List.eq_nil_of_length_eq_zero ha, List.eq_nil_of_length_eq_zero hb]
  · exact up_inj ha hb (n - 1) (by omega) h
theorem it_len (n : Nat) (ns l : List Nat) : ∀ j, (itN n ns l j).length = l.length
  | 0 => rfl
  | j + 1 => by rw [itN, upN_len, it_len n ns l j]
theorem it_back {n : Nat} {ns l : List Nat} (hl : l.length = n) : ∀ i d, itN n ns l i = itN n ns l (i + d) → itN n ns l d = l
  | 0, d, h => by rw [Nat.zero_add] at h; exact h.symm
  | i + 1, d, h => by
    rw [show i + 1 + d = (i + d) + 1 by omega] at h
    exact it_back hl i d (up1_inj (by rw [it_len, hl]) (by rw [it_len, hl]) h)
def enc : List Nat → Nat
  | [] => 0
  | x :: l => x + 10 * enc l
theorem enc_lt : ∀ {l : List Nat}, (∀ x ∈ l, x < 10) → enc l < 10 ^ l.length
  | [], _ => by decide
  | x :: l, h => by
    have h1 := enc_lt (l := l) fun y hy => h y (List.mem_cons_of_mem _ hy)
    have h2 := h x List.mem_cons_self
    rw [List.length_cons, Nat.pow_succ]
    show x + 10 * enc l < _
    omega
theorem enc_inj : ∀ {a b : List Nat}, a.length = b.length → (∀ x ∈ a, x < 10) → (∀ x ∈ b, x < 10) → enc a = enc b → a = b
  | [], [], _, _, _, _ => rfl
  | [], y :: b, h, _, _, _ => by cases h
  | x :: a, [], h, _, _, _ => by cases h
  | x :: a, y :: b, h, ha, hb, he => by
    have he : x + 10 * enc a = y + 10 * enc b := he
    have h1 := ha x List.mem_cons_self
    have h2 := hb y List.mem_cons_self
    have e1 : x = y := by omega
    have e2 : enc a = enc b := by omega
    rw [e1, enc_inj (by simpa using h) (fun z hz => ha z (List.mem_cons_of_mem _ hz)) (fun z hz => hb z (List.mem_cons_of_mem _ hz)) e2]
theorem pts_lt {n : Nat} {l : List Nat} (hn : n ≤ 10) (h : Pts n l) : ∀ x ∈ l, x < 10 := by
  intro x hx
  obtain ⟨i, hi, rfl⟩ := List.getElem_of_mem hx
  have := h.2 i (by rw [← h.1]; exact hi)
  rw [List.getD_eq_getElem?_getD, List.getElem?_eq_getElem hi] at this
  simp at this
  omega
theorem least {P : Nat → Prop} : ∀ m, P m → ∃ p, p ≤ m ∧ P p ∧ ∀ j, j < p → ¬ P j := by
  intro m
  induction m using Nat.strongRecOn with
  | _ m ih =>
    intro h
    by_cases h2 : ∃ j, j < m ∧ P j
    · obtain ⟨j, hj, hp⟩ := h2
      obtain ⟨p, h3, h4, h5⟩ := ih j hj hp
      exact ⟨p, by omega, h4, h5⟩
    · exact ⟨m, Nat.le_refl m, h, fun j hj hp => h2 ⟨j, hj, hp⟩⟩
theorem php : ∀ (B : Nat) (f : Nat → Nat), (∀ j, j ≤ B → f j < B) → ∃ i j, i < j ∧ j ≤ B ∧ f i = f j
  | 0, f, h => absurd (h 0 (Nat.le_refl 0)) (Nat.not_lt_zero _)
  | B + 1, f, h => by
    by_cases he : ∃ i, i < B + 1 ∧ f i = f (B + 1)
    · obtain ⟨i, hi, he⟩ := he
      exact ⟨i, B + 1, hi, Nat.le_refl _, he⟩
    · have hne : ∀ i, i < B + 1 → f i ≠ f (B + 1) := fun i hi h2 => he ⟨i, hi, h2⟩
      obtain ⟨i, j, h1, h2, h3⟩ := php B (fun j => if f j < f (B + 1) then f j else f j - 1) (fun j hj => by
        have a1 := h j (by omega)
        have a2 := h (B + 1) (Nat.le_refl _)
        have a3 := hne j (by omega)
        show (if f j < f (B + 1) then f j else f j - 1) < B
        split <;> omega)
      refine ⟨i, j, h1, by omega, ?_⟩
      have a1 := hne i (by omega)
      have a2 := hne j (by omega)
      have h3 : (if f i < f (B + 1) then f i else f i - 1) = (if f j < f (B + 1) then f j else f j - 1) := h3
      split at h3 <;> split at h3 <;> omega
theorem orbit_ex {n : Nat} {ns r : List Nat} (hn : n ≤ 10) (h : RowP n ns r) : ∃ p, 0 < p ∧ p ≤ 10000000000 ∧ itN n ns r p = r ∧ ∀ j, 0 < j → j < p → itN n ns r j ≠ r := by
  have hP := h.it
  have hpt : ∀ j, ∀ x ∈ itN n ns r j, x < 10 := fun j => pts_lt hn ⟨(hP j).len, (hP j).pt⟩
  have hB : ∀ j, enc (itN n ns r j) < 10 ^ 10 := fun j => by
    have h1 := enc_lt (hpt j)
    have h2 : 10 ^ (itN n ns r j).length ≤ 10 ^ 10 := Nat.pow_le_pow_right (by decide) (by rw [(hP j).len]; exact hn)
    omega
  obtain ⟨i, j, h1, h2, h3⟩ := php (10 ^ 10) (fun j => enc (itN n ns r j)) fun j _ => hB j
  have h4 := enc_inj (by rw [it_len, it_len]) (hpt i) (hpt j) h3
  have h5 := it_back h.len i (j - i) (by rw [h4, show i + (j - i) = j by omega])
  obtain ⟨p, a1, ⟨a2, a3⟩, a4⟩ := least (P := fun p => 0 < p ∧ itN n ns r p = r) (j - i) ⟨by omega, h5⟩
  exact ⟨p, a2, by omega, a3, fun j hj hjp he => a4 j hjp ⟨hj, he⟩⟩
end Go.Proofs.Ytjepdcfiogjmgaa
