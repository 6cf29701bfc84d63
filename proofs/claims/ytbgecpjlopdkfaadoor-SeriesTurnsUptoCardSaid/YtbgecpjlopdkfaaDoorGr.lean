import Derived.Test.YtbgecpjlopdkfaaDoorGo
import Derived.Test.YtbgecpjlopdkfaaDoorGd
import Derived.Test.YtbgecpjlopdkfaaDoorSra
import Derived.Test.YtbgecpjlopdkfaaDoorEngZd
set_option linter.unusedSimpArgs false
set_option linter.unusedVariables false
set_option linter.unusedSectionVars false
set_option maxRecDepth 20000
namespace Go.Proofs.YtbgecpjlopdkfaaDoor
attribute [local irreducible] QOp aL aC qL
/-- In how many ways f points may follow a set, one by one. -/
def cnt (n : Nat) (may : Nat → Nat → Bool) : Nat → Nat → Nat
  | 0, _ => 1
  | f + 1, s => sumTo (fun p => if may s p = true then cnt n may f (s ||| 2 ^ p) else 0) n
theorem cnt_congr {n : Nat} {may may' : Nat → Nat → Bool} (h : ∀ s p, p < n → may s p = may' s p) : ∀ f s, cnt n may f s = cnt n may' f s
  | 0, _ => rfl
  | f + 1, s => sumTo_congr fun p hp => by rw [h s p hp, cnt_congr h f]
theorem cnt_le {n : Nat} (hn : n ≤ 10) (may : Nat → Nat → Bool) : ∀ f s, cnt n may f s ≤ 10 ^ f
  | 0, _ => by simp [cnt]
  | f + 1, s => by
    have : ∀ p, (if may s p = true then cnt n may f (s ||| 2 ^ p) else 0) ≤ 10 ^ f := fun p => by
      split
      · exact cnt_le hn may f _
      · exact Nat.zero_le _
    have h2 := sumTo_le this n
    have h3 : n * 10 ^ f ≤ 10 * 10 ^ f := Nat.mul_le_mul_right _ hn
    rw [Nat.pow_succ]
    show sumTo _ n ≤ _
    omega
/-- How many of n points are not in a set. -/
def mis (n s : Nat) : Nat := (List.range n).countP fun i => !s.testBit i
theorem mis_le (n s : Nat) : mis n s ≤ n := by
  have := List.countP_le_length (p := fun i => !s.testBit i) (l := List.range n)
  rwa [List.length_range] at this
theorem mis_succ (n s : Nat) : mis (n + 1) s = mis n s + if s.testBit n = true then 0 else 1 := by
  unfold mis
  rw [List.range_succ, List.countP_append]
  by_cases h : s.testBit n = true <;> simp [List.countP_cons, h]
theorem mis_out {s p : Nat} : ∀ {n : Nat}, n ≤ p → mis n (s ||| 2 ^ p) = mis n s
  | 0, _ => rfl
  | n + 1, h => by
    rw [mis_succ, mis_succ, mis_out (by omega), Nat.testBit_or, Nat.testBit_two_pow, decide_eq_false (by omega), Bool.or_false]
theorem mis_add {s p : Nat} (hs : s.testBit p = false) : ∀ {n : Nat}, p < n → mis n (s ||| 2 ^ p) + 1 = mis n s
  | 0, h => by omega
  | n + 1, h => by
    rw [mis_succ, mis_succ]
    by_cases hp : p = n
    · subst hp
      rw [mis_out (Nat.le_refl p), Nat.testBit_or, Nat.testBit_two_pow_self, hs]
      simp
    · have := mis_add hs (n := n) (by omega)
      rw [Nat.testBit_or, Nat.testBit_two_pow, decide_eq_false hp, Bool.or_false]
      omega
theorem mis_zero {s : Nat} : ∀ {n : Nat}, mis n s = 0 ↔ ∀ i, i < n → s.testBit i = true
  | 0 => ⟨fun _ i hi => by omega, fun _ => rfl⟩
  | n + 1 => by
    rw [mis_succ]
    have ih := mis_zero (s := s) (n := n)
    constructor
    · intro h i hi
      by_cases hin : i = n
      · subst hin
        cases hq : s.testBit i
        · rw [hq] at h; simp at h
        · rfl
      · exact ih.1 (by omega) i (by omega)
    · intro h
      rw [ih.2 fun i hi => h i (by omega), h n (by omega), if_pos rfl]
theorem mis_full {n s : Nat} (hs : s < 2 ^ n) : mis n s = 0 ↔ s = 2 ^ n - 1 := by
  rw [mis_zero]
  constructor
  · intro h
    apply Nat.eq_of_testBit_eq
    intro i
    rw [Nat.testBit_two_pow_sub_one]
    by_cases hi : i < n
    · rw [h i hi, decide_eq_true hi]
    · rw [Nat.testBit_lt_two_pow (Nat.lt_of_lt_of_le hs (Nat.pow_le_pow_right (by decide) (by omega))), decide_eq_false hi]
  · intro h i hi
    rw [h, Nat.testBit_two_pow_sub_one, decide_eq_true hi]
theorem mis_nought : ∀ n : Nat, mis n 0 = n
  | 0 => rfl
  | n + 1 => by rw [mis_succ, mis_nought n]; simp
/-- All that may follow a set. -/
def rest (n : Nat) (may : Nat → Nat → Bool) (s : Nat) : Nat := cnt n may (mis n s) s
theorem rest_le {n : Nat} (hn : n ≤ 10) (may : Nat → Nat → Bool) (s : Nat) : rest n may s ≤ 10000000000 := by
  have h1 := cnt_le hn may (mis n s) s
  have h2 : 10 ^ mis n s ≤ 10 ^ 10 := Nat.pow_le_pow_right (by decide) (Nat.le_trans (mis_le n s) hn)
  unfold rest
  omega
theorem rest_full {n : Nat} (may : Nat → Nat → Bool) : rest n may (2 ^ n - 1) = 1 := by
  unfold rest
  rw [(mis_full (by have : 0 < 2 ^ n := Nat.pow_pos (by decide); omega)).2 rfl]
  rfl
def term (n : Nat) (may : Nat → Nat → Bool) (s p : Nat) : Nat := if may s p = true then rest n may (s ||| 2 ^ p) else 0
theorem term_le {n : Nat} (hn : n ≤ 10) (may : Nat → Nat → Bool) (s p : Nat) : term n may s p ≤ 10000000000 := by
  unfold term
  split
  · exact rest_le hn may _
  · exact Nat.zero_le _
theorem rest_step {n : Nat} {may : Nat → Nat → Bool} (hm : ∀ s p, may s p = true → s.testBit p = false) {s : Nat} (hs : s < 2 ^ n) (hf : s ≠ 2 ^ n - 1) : rest n may s = sumTo (term n may s) n := by
  have h0 : mis n s ≠ 0 := fun h => hf ((mis_full hs).1 h)
  obtain ⟨f, hf2⟩ : ∃ f, mis n s = f + 1 := ⟨mis n s - 1, by omega⟩
  unfold rest
  rw [hf2]
  refine sumTo_congr fun p hp => ?_
  unfold term rest
  split
  · rename_i hmay
    have := mis_add (hm s p hmay) hp
    rw [show mis n (s ||| 2 ^ p) = f by omega]
  · rfl
theorem rest_nought (n : Nat) (may : Nat → Nat → Bool) : rest n may 0 = cnt n may n 0 := by unfold rest; rw [mis_nought]
theorem or_gt {s p : Nat} (h : s.testBit p = false) : s < s ||| 2 ^ p := by
  have h1 : s ≤ s ||| 2 ^ p := Nat.left_le_or
  rcases Nat.lt_or_eq_of_le h1 with h2 | h2
  · exact h2
  · exfalso
    have : (s ||| 2 ^ p).testBit p = true := by rw [Nat.testBit_or, Nat.testBit_two_pow_self, Bool.or_true]
    rw [← h2, h] at this
    cases this
/-- What is told of the sets from k on. -/
def tbl (n : Nat) (may : Nat → Nat → Bool) (k : Nat) : List Nat := (List.range (2 ^ n)).map fun s => if k ≤ s then rest n may s else 0
theorem tbl_len (n : Nat) (may : Nat → Nat → Bool) (k : Nat) : (tbl n may k).length = 2 ^ n := by simp [tbl]
theorem tbl_get {n : Nat} {may : Nat → Nat → Bool} {k s : Nat} (hs : s < 2 ^ n) : (tbl n may k).getD s 0 = if k ≤ s then rest n may s else 0 := by
  simp [tbl, List.getD_eq_getElem?_getD, hs]
theorem tbl_nil (n : Nat) (may : Nat → Nat → Bool) : tbl n may (2 ^ n) = List.replicate (2 ^ n) 0 := by
  apply List.ext_getElem
  · simp [tbl]
  · intro i h1 h2
    have : i < 2 ^ n := by simpa using h2
    simp [tbl]
    omega
theorem tbl_set {n : Nat} {may : Nat → Nat → Bool} {s : Nat} : (tbl n may (s + 1)).set s (rest n may s) = tbl n may s := by
  apply List.ext_getElem
  · simp [tbl]
  · intro i h1 h2
    rw [List.getElem_set]
    simp only [tbl, List.getElem_map, List.getElem_range]
    by_cases hi : s = i
    · subst hi; simp
    · rw [if_neg hi]
      by_cases h : s ≤ i
      · rw [if_pos h, if_pos (by omega)]
      · rw [if_neg h, if_neg (by omega)]
theorem tbl_set0 {n : Nat} {may : Nat → Nat → Bool} {s : Nat} : (tbl n may (s + 1)).set s 0 = tbl n may (s + 1) := by
  apply List.ext_getElem
  · simp [tbl]
  · intro i h1 h2
    rw [List.getElem_set]
    simp only [tbl, List.getElem_map, List.getElem_range]
    by_cases hi : s = i
    · subst hi; simp; intro h; omega
    · rw [if_neg hi]
/-! Pairs, and the order that they come to. -/
def mayB (l : List (Nat × Nat)) (s p : Nat) : Bool := !s.testBit p && l.all fun e => !decide (e.2 = p) || s.testBit e.1
def mayO (ns : List Nat) (s p : Nat) : Bool := !s.testBit p && sub (ns.getD p 0) s
theorem mayO_not {ns : List Nat} {s p : Nat} (h : mayO ns s p = true) : s.testBit p = false := by
  simp only [mayO, Bool.and_eq_true, Bool.not_eq_true'] at h; exact h.1
theorem mayB_not {l : List (Nat × Nat)} {s p : Nat} (h : mayB l s p = true) : s.testBit p = false := by
  simp only [mayB, Bool.and_eq_true, Bool.not_eq_true'] at h; exact h.1
theorem mayB_iff {l : List (Nat × Nat)} {s p : Nat} : mayB l s p = true ↔ s.testBit p = false ∧ ∀ a, (a, p) ∈ l → s.testBit a = true := by
  simp only [mayB, Bool.and_eq_true, Bool.not_eq_true', List.all_eq_true, Bool.or_eq_true, decide_eq_false_iff_not]
  constructor
  · rintro ⟨h1, h2⟩
    exact ⟨h1, fun a ha => (h2 _ ha).elim (fun h => absurd rfl h) id⟩
  · rintro ⟨h1, h2⟩
    refine ⟨h1, fun e he => ?_⟩
    by_cases hp : e.2 = p
    · exact .inr (h2 e.1 (by rw [← hp]; exact he))
    · exact .inl hp
def Dn (l : List (Nat × Nat)) (s : Nat) : Prop := ∀ a b, (a, b) ∈ l → s.testBit b = true → s.testBit a = true
theorem Dn.reach {l : List (Nat × Nat)} {s a b : Nat} (hd : Dn l s) (h : Reach l a b) : s.testBit b = true → s.testBit a = true := by
  induction h with
  | one h => exact hd _ _ h
  | more _ h ih => exact fun hb => ih (hd _ _ h hb)
theorem Dn.step {l : List (Nat × Nat)} {s p : Nat} (hd : Dn l s) (h : mayB l s p = true) : Dn l (s ||| 2 ^ p) := by
  intro a b hab hb
  rw [Nat.testBit_or, Nat.testBit_two_pow, Bool.or_eq_true, decide_eq_true_eq] at hb
  rw [Nat.testBit_or, Bool.or_eq_true]
  rcases hb with hb | hb
  · exact .inl (hd a b hab hb)
  · subst hb
    exact .inl ((mayB_iff.1 h).2 a hab)
theorem mayO_iff {ns : List Nat} {s p : Nat} : mayO ns s p = true ↔ s.testBit p = false ∧ ∀ a, lt ns a p = true → s.testBit a = true := by
  simp only [mayO, Bool.and_eq_true, Bool.not_eq_true', sub_iff]
  rfl
theorem may_clos {n : Nat} {l : List (Nat × Nat)} (hl : ∀ p ∈ l, p.1 < n ∧ p.2 < n) {s p : Nat} (hp : p < n) (hd : Dn l s) : mayO (clos n l) s p = mayB l s p := by
  rw [Bool.eq_iff_iff, mayO_iff, mayB_iff]
  refine and_congr_right fun _ => ⟨fun h a ha => h a ((clos_iff hl hp).2 (.one ha)), fun h a ha => ?_⟩
  have hr := (clos_iff hl hp).1 ha
  cases hr with
  | one h1 => exact h a h1
  | more h1 h2 => exact hd.reach h1 (h _ h2)
theorem cnt_clos {n : Nat} {l : List (Nat × Nat)} (hl : ∀ p ∈ l, p.1 < n ∧ p.2 < n) : ∀ f s, Dn l s → cnt n (mayO (clos n l)) f s = cnt n (mayB l) f s
  | 0, _, _ => rfl
  | f + 1, s, hd => sumTo_congr fun p hp => by
    rw [may_clos hl hp hd]
    split
    · rename_i h
      exact cnt_clos hl f _ (hd.step h)
    · rfl
theorem cnt_loop {n : Nat} {l : List (Nat × Nat)} : ∀ f s, Dn l s → mis n s = f → cnt n (mayB l) f s ≠ 0 → ∀ q, q < n → s.testBit q = false → ¬ Reach l q q
  | 0, s, _, hm, _, q, hq, hs, _ => by
    have := mis_zero.1 hm q hq
    rw [hs] at this; cases this
  | f + 1, s, hd, hm, hc, q, hq, hs, hr => by
    obtain ⟨p, hp, h⟩ := sumTo_pos hc
    by_cases hmay : mayB l s p = true
    · rw [if_pos hmay] at h
      by_cases hqp : q = p
      · subst hqp
        have h2 := (mayB_iff.1 hmay).2
        cases hr with
        | one h1 => have := h2 _ h1; rw [hs] at this; cases this
        | more h1 h3 =>
          have := hd.reach h1 (h2 _ h3)
          rw [hs] at this; cases this
      · refine cnt_loop f _ (hd.step hmay) ?_ h q hq ?_ hr
        · have := mis_add (mayB_not hmay) hp; omega
        · rw [Nat.testBit_or, Nat.testBit_two_pow, hs, decide_eq_false (Ne.symm hqp)]; rfl
    · rw [if_neg hmay] at h; exact h rfl
theorem dn_nought (l : List (Nat × Nat)) : Dn l 0 := fun a b _ h => by rw [Nat.zero_testBit] at h; cases h
/-- How many rows keep pairs: by the order that they come to. -/
theorem rows_eq {n : Nat} {l : List (Nat × Nat)} (hl : ∀ p ∈ l, p.1 < n ∧ p.2 < n) : (if irr n (clos n l) = true then rest n (mayO (clos n l)) 0 else 0) = rest n (mayB l) 0 := by
  rw [rest_nought, rest_nought]
  split
  · exact cnt_clos hl n 0 (dn_nought l)
  · rename_i h
    rw [irr_iff hl] at h
    apply Classical.byContradiction
    intro hc
    exact h fun q hq => cnt_loop n 0 (dn_nought l) (mis_nought n) (Ne.symm hc) q hq (Nat.zero_testBit q)
theorem prs_mem' {n : Nat} {ns : List Nat} (hv : Vld n ns) {a b : Nat} : (a, b) ∈ prsTo n (pf n ns false) n ↔ lt ns a b = true := by
  rw [prs_mem]
  simp only [pf, Bool.not_false, Bool.true_or, Bool.and_true]
  exact ⟨fun h => h.2.2, fun h => ⟨lt_lt hv.2 h, lt_lt' hv.1 h, h⟩⟩
theorem mayB_prs {n : Nat} {ns : List Nat} (hv : Vld n ns) (s p : Nat) : mayB (prsTo n (pf n ns false) n) s p = mayO ns s p := by
  rw [Bool.eq_iff_iff, mayO_iff, mayB_iff]
  exact and_congr_right fun _ => ⟨fun h a ha => h a ((prs_mem' hv).2 ha), fun h a ha => h a ((prs_mem' hv).1 ha)⟩
theorem rest_congr {n : Nat} {may may' : Nat → Nat → Bool} (h : ∀ s p, p < n → may s p = may' s p) (s : Nat) : rest n may s = rest n may' s := cnt_congr h _ s
end Go.Proofs.YtbgecpjlopdkfaaDoor
set_option linter.unusedSimpArgs false
set_option linter.unusedVariables false
set_option linter.unusedSectionVars false
set_option maxRecDepth 20000
namespace Go.Proofs.YtbgecpjlopdkfaaDoor
attribute [local irreducible] QOp aL aC qL
/-- How many of the first k points a set has. -/
def pcTo (x : Nat) : Nat → Nat
  | 0 => 0
  | k + 1 => pcTo x k + x / 2 ^ k % 2
def oc1 (x : Nat) : Nat := ((x / 2 ^ (1 : Int).toNat % 18446744073709551616 &&& (6148914691236517205 : Int).toNat) + (x % 18446744073709551616 &&& (6148914691236517205 : Int).toNat)) % 18446744073709551616
def oc2 (x : Nat) : Nat := ((x / 2 ^ (2 : Int).toNat % 18446744073709551616 &&& (3689348814741910323 : Int).toNat) + (x % 18446744073709551616 &&& (3689348814741910323 : Int).toNat)) % 18446744073709551616
def oc3 (x : Nat) : Nat := (x / 2 ^ (4 : Int).toNat + x) % 18446744073709551616 % 18446744073709551616 &&& (1085102592571150095 : Int).toNat
def oc4 (x : Nat) : Nat := (x + x / 2 ^ (8 : Int).toNat) % 18446744073709551616
def oc5 (x : Nat) : Nat := (x + x / 2 ^ (16 : Int).toNat) % 18446744073709551616
def oc6 (x : Nat) : Nat := (x + x / 2 ^ (32 : Int).toNat) % 18446744073709551616
def ocn (x : Nat) : Nat := oc6 (oc5 (oc4 (oc3 (oc2 (oc1 x)))))
end Go.Proofs.YtbgecpjlopdkfaaDoor
