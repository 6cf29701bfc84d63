import Derived.Test.YtgojkabjgagjcaaDoorXc
import Derived.Test.YtgojkabjgagjcaaDoorGc
import Derived.Test.YtgojkabjgagjcaaDoorGd
import Derived.Test.YtgojkabjgagjcaaDoorCf
import Derived.Test.YtgojkabjgagjcaaDoorEngA
set_option linter.unusedSimpArgs false
set_option linter.unusedVariables false
set_option linter.unusedSectionVars false
set_option maxRecDepth 20000
namespace Go.Proofs.YtgojkabjgagjcaaDoor
attribute [local irreducible] QOp aL aC qL
/-- In how many ways f points may follow a set, one by one. -/
def cnt (n : Nat) (may : Nat → Nat → Bool) : Nat → Nat → Nat
  | 0, _ => 1
  | f + 1, s => sumTo (fun p => if may s p = true then cnt n may f (s ||| 2 ^ p) else 0) n
theorem cnt_congr {n : Nat} {may may' : Nat → Nat → Bool} (h : ∀ s p, p < n → may s p = may' s p) : ∀ f s, cnt n may f s = cnt n may' f s
  | 0, _ => rfl
  | f + 1, s => sumTo_congr fun p hp => by rw [h s p hp, cnt_congr h f]
theorem cnt_le {n : Nat} (hn : n ≤ 10) (may : Nat → Nat → Bool) : ∀ f s, cnt n may f s ≤ 10 ^ f
  | 0, _ => by simp [cnt]
  | f + 1, s => by
    have : ∀ p, (if may s p = true then cnt n may f (s ||| 2 ^ p) else 0) ≤ 10 ^ f := fun p => by
      split
      · exact cnt_le hn may f _
      · exact Nat.zero_le _
    have h2 := sumTo_le this n
    have h3 : n * 10 ^ f ≤ 10 * 10 ^ f := Nat.mul_le_mul_right _ hn
    rw [Nat.pow_succ]
    show sumTo _ n ≤ _
    omega
/-- How many of n points are not in a set. -/
def mis (n s : Nat) : Nat := (List.range n).countP fun i => !s.testBit i
theorem mis_le (n s : Nat) : mis n s ≤ n := by
  have := List.countP_le_length (p := fun i => !s.testBit i) (l := List.range n)
  rwa [List.length_range] at this
theorem mis_succ (n s : Nat) : mis (n + 1) s = mis n s + if s.testBit n = true then 0 else 1 := by
  unfold mis
  rw [List.range_succ, List.countP_append]
  by_cases h : s.testBit n = true <;> simp [List.countP_cons, h]
theorem mis_out {s p : Nat} : ∀ {n : Nat}, n ≤ p → mis n (s ||| 2 ^ p) = mis n s
  | 0, _ => rfl
  | n + 1, h => by
    rw [mis_succ, mis_succ, mis_out (by omega), Nat.testBit_or, Nat.testBit_two_pow, decide_eq_false (by omega), Bool.or_false]
theorem mis_add {s p : Nat} (hs : s.testBit p = false) : ∀ {n : Nat}, p < n → mis n (s ||| 2 ^ p) + 1 = mis n s
  | 0, h => by omega
  | n + 1, h => by
    rw [mis_succ, mis_succ]
    by_cases hp : p = n
    · subst hp
      rw [mis_out (Nat.le_refl p), Nat.testBit_or, Nat.testBit_two_pow_self, hs]
      simp
    · have := mis_add hs (n := n) (by omega)
      rw [Nat.testBit_or, Nat.testBit_two_pow, decide_eq_false hp, Bool.or_false]
      omega
theorem mis_zero {s : Nat} : ∀ {n : Nat}, mis n s = 0 ↔ ∀ i, i < n → s.testBit i = true
  | 0 => ⟨fun _ i hi => by omega, fun _ => rfl⟩
  | n + 1 => by
    rw [mis_succ]
    have ih := mis_zero (s := s) (n := n)
    constructor
    · intro h i hi
      by_cases hin : i = n
      · subst hin
        cases hq : s.testBit i
        · rw [hq] at h; simp at h
        · rfl
      · exact ih.1 (by omega) i (by omega)
    · intro h
      rw [ih.2 fun i hi => h i (by omega), h n (by omega), if_pos rfl]
theorem mis_full {n s : Nat} (hs : s < 2 ^ n) : mis n s = 0 ↔ s = 2 ^ n - 1 := by
  rw [mis_zero]
  constructor
  · intro h
    apply Nat.eq_of_testBit_eq
    intro i
    rw [Nat.testBit_two_pow_sub_one]
    by_cases hi : i < n
    · rw [h i hi, decide_eq_true hi]
    · rw [Nat.testBit_lt_two_pow (Nat.lt_of_lt_of_le hs (Nat.pow_le_pow_right (by decide) (by omega))), decide_eq_false hi]
  · intro h i hi
    rw [h, Nat.testBit_two_pow_sub_one, decide_eq_true hi]
theorem mis_nought : ∀ n : Nat, mis n 0 = n
  | 0 => rfl
  | n + 1 => by rw [mis_succ, mis_nought n]; simp
/-- All that may follow a set. -/
def rest (n : Nat) (may : Nat → Nat → Bool) (s : Nat) : Nat := cnt n may (mis n s) s
theorem rest_le {n : Nat} (hn : n ≤ 10) (may : Nat → Nat → Bool) (s : Nat) : rest n may s ≤ 10000000000 := by
  have h1 := cnt_le hn may (mis n s) s
  have h2 : 10 ^ mis n s ≤ 10 ^ 10 := Nat.pow_le_pow_right (by decide) (Nat.le_trans (mis_le n s) hn)
  unfold rest
  omega
theorem rest_full {n : Nat} (may : Nat → Nat → Bool) : rest n may (2 ^ n - 1) = 1 := by
  unfold rest
  rw [(mis_full (by have : 0 < 2 ^ n := Nat.pow_pos (by decide); omega)).2 rfl]
  rfl
def term (n : Nat) (may : Nat → Nat → Bool) (s p : Nat) : Nat := if may s p = true then rest n may (s ||| 2 ^ p) else 0
theorem term_le {n : Nat} (hn : n ≤ 10) (may : Nat → Nat → Bool) (s p : Nat) : term n may s p ≤ 10000000000 := by
  unfold term
  split
  · exact rest_le hn may _
  · exact Nat.zero_le _
theorem rest_step {n : Nat} {may : Nat → Nat → Bool} (hm : ∀ s p, may s p = true → s.testBit p = false) {s : Nat} (hs : s < 2 ^ n) (hf : s ≠ 2 ^ n - 1) : rest n may s = sumTo (term n may s) n := by
  have h0 : mis n s ≠ 0 := fun h => hf ((mis_full hs).1 h)
  obtain ⟨f, hf2⟩ : ∃ f, mis n s = f + 1 := ⟨mis n s - 1, by omega⟩
  unfold rest
  rw [hf2]
  refine sumTo_congr fun p hp => ?_
  unfold term rest
  split
  · rename_i hmay
    have := mis_add (hm s p hmay) hp
    rw [show mis n (s ||| 2 ^ p) = f by omega]
  · rfl
theorem rest_nought (n : Nat) (may : Nat → Nat → Bool) : rest n may 0 = cnt n may n 0 := by unfold rest; rw [mis_nought]
theorem or_gt {s p : Nat} (h : s.testBit p = false) : s < s ||| 2 ^ p := by
  have h1 : s ≤ s ||| 2 ^ p := Nat.left_le_or
  rcases Nat.lt_or_eq_of_le h1 with h2 | h2
  · exact h2
  · exfalso
    have : (s ||| 2 ^ p).testBit p = true := by rw [Nat.testBit_or, Nat.testBit_two_pow_self, Bool.or_true]
    rw [← h2, h] at this
    cases this
/-- What is told of the sets from k on. -/
def tbl (n : Nat) (may : Nat → Nat → Bool) (k : Nat) : List Nat := (List.range (2 ^ n)).map fun s => if k ≤ s then rest n may s else 0
theorem tbl_len (n : Nat) (may : Nat → Nat → Bool) (k : Nat) : (tbl n may k).length = 2 ^ n := by simp [tbl]
theorem tbl_get {n : Nat} {may : Nat → Nat → Bool} {k s : Nat} (hs : s < 2 ^ n) : (tbl n may k).getD s 0 = if k ≤ s then rest n may s else 0 := by
  simp [tbl, List.getD_eq_getElem?_getD, hs]
theorem tbl_nil (n : Nat) (may : Nat → Nat → Bool) : tbl n may (2 ^ n) = List.replicate (2 ^ n) 0 := by
  apply List.ext_getElem
  · simp [tbl]
  · intro i h1 h2
    have : i < 2 ^ n := by simpa using h2
    simp [tbl]
    omega
theorem tbl_set {n : Nat} {may : Nat → Nat → Bool} {s : Nat} : (tbl n may (s + 1)).set s (rest n may s) = tbl n may s := by
  apply List.ext_getElem
  · simp [tbl]
  · intro i h1 h2
    rw [List.getElem_set]
    simp only [tbl, List.getElem_map, List.getElem_range]
    by_cases hi : s = i
    · subst hi; simp
    · rw [if_neg hi]
      by_cases h : s ≤ i
      · rw [if_pos h, if_pos (by omega)]
      · rw [if_neg h, if_neg (by omega)]
theorem tbl_set0 {n : Nat} {may : Nat → Nat → Bool} {s : Nat} : (tbl n may (s + 1)).set s 0 = tbl n may (s + 1) := by
  apply List.ext_getElem
  · simp [tbl]
  · intro i h1 h2
    rw [List.getElem_set]
    simp only [tbl, List.getElem_map, List.getElem_range]
    by_cases hi : s = i
    · subst hi; simp; intro h; omega
    · rw [if_neg hi]
/-! Pairs, and the order that they come to. -/
def mayB (l : List (Nat × Nat)) (s p : Nat) : Bool := !s.testBit p && l.all fun e => !decide (e.2 = p) || s.testBit e.1
def mayO (ns : List Nat) (s p : Nat) : Bool := !s.testBit p && sub (ns.getD p 0) s
theorem mayO_not {ns : List Nat} {s p : Nat} (h : mayO ns s p = true) : s.testBit p = false := by
  simp only [mayO, Bool.and_eq_true, Bool.not_eq_true'] at h; exact h.1
theorem mayB_not {l : List (Nat × Nat)} {s p : Nat} (h : mayB l s p = true) : s.testBit p = false := by
  simp only [mayB, Bool.and_eq_true, Bool.not_eq_true'] at h; exact h.1
theorem mayB_iff {l : List (Nat × Nat)} {s p : Nat} : mayB l s p = true ↔ s.testBit p = false ∧ ∀ a, (a, p) ∈ l → s.testBit a = true := by
  simp only [mayB, Bool.and_eq_true, Bool.not_eq_true', List.all_eq_true, Bool.or_eq_true, decide_eq_false_iff_not]
  constructor
  · rintro ⟨h1, h2⟩
    exact ⟨h1, fun a ha => (h2 _ ha).elim (fun h => absurd rfl h) id⟩
  · rintro ⟨h1, h2⟩
    refine ⟨h1, fun e he => ?_⟩
    by_cases hp : e.2 = p
    · exact .inr (h2 e.1 (by rw [← hp]; exact he))
    · exact .inl hp
def Dn (l : List (Nat × Nat)) (s : Nat) : Prop := ∀ a b, (a, b) ∈ l → s.testBit b = true → s.testBit a = true
theorem Dn.reach {l : List (Nat × Nat)} {s a b : Nat} (hd : Dn l s) (h : Reach l a b) : s.testBit b = true → s.testBit a = true := by
  induction h with
  | one h => exact hd _ _ h
  | more _ h ih => exact fun hb => ih (hd _ _ h hb)
theorem Dn.step {l : List (Nat × Nat)} {s p : Nat} (hd : Dn l s) (h : mayB l s p = true) : Dn l (s ||| 2 ^ p) := by
  intro a b hab hb
  rw [Nat.testBit_or, Nat.testBit_two_pow, Bool.or_eq_true, decide_eq_true_eq] at hb
  rw [Nat.testBit_or, Bool.or_eq_true]
  rcases hb with hb | hb
  · exact .inl (hd a b hab hb)
  · subst hb
    exact .inl ((mayB_iff.1 h).2 a hab)
theorem mayO_iff {ns : List Nat} {s p : Nat} : mayO ns s p = true ↔ s.testBit p = false ∧ ∀ a, lt ns a p = true → s.testBit a = true := by
  simp only [mayO, Bool.and_eq_true, Bool.not_eq_true', sub_iff]
  rfl
theorem may_clos {n : Nat} {l : List (Nat × Nat)} (hl : ∀ p ∈ l, p.1 < n ∧ p.2 < n) {s p : Nat} (hp : p < n) (hd : Dn l s) : mayO (clos n l) s p = mayB l s p := by
  rw [Bool.eq_iff_iff, mayO_iff, mayB_iff]
  refine and_congr_right fun _ => ⟨fun h a ha => h a ((clos_iff hl hp).2 (.one ha)), fun h a ha => ?_⟩
  have hr := (clos_iff hl hp).1 ha
  cases hr with
  | one h1 => exact h a h1
  | more h1 h2 => exact hd.reach h1 (h _ h2)
theorem cnt_clos {n : Nat} {l : List (Nat × Nat)} (hl : ∀ p ∈ l, p.1 < n ∧ p.2 < n) : ∀ f s, Dn l s → cnt n (mayO (clos n l)) f s = cnt n (mayB l) f s
  | 0, _, _ => rfl
  | f + 1, s, hd => sumTo_congr fun p hp => by
    rw [may_clos hl hp hd]
    split
    · rename_i h
      exact cnt_clos hl f _ (hd.step h)
    · rfl
theorem cnt_loop {n : Nat} {l : List (Nat × Nat)} : ∀ f s, Dn l s → mis n s = f → cnt n (mayB l) f s ≠ 0 → ∀ q, q < n → s.testBit q = false → ¬ Reach l q q
  | 0, s, _, hm, _, q, hq, hs, _ => by
    have := mis_zero.1 hm q hq
    rw [hs] at this; cases this
  | f + 1, s, hd, hm, hc, q, hq, hs, hr => by
    obtain ⟨p, hp, h⟩ := sumTo_pos hc
    by_cases hmay : mayB l s p = true
    · rw [if_pos hmay] at h
      by_cases hqp : q = p
      · subst hqp
        have h2 := (mayB_iff.1 hmay).2
        cases hr with
        | one h1 => have := h2 _ h1; rw [hs] at this; cases this
        | more h1 h3 =>
          have := hd.reach h1 (h2 _ h3)
          rw [hs] at this; cases this
      · refine cnt_loop f _ (hd.step hmay) ?_ h q hq ?_ hr
        · have := mis_add (mayB_not hmay) hp; omega
        · rw [Nat.testBit_or, Nat.testBit_two_pow, hs, decide_eq_false (Ne.symm hqp)]; rfl
    · rw [if_neg hmay] at h; exact h rfl
theorem dn_nought (l : List (Nat × Nat)) : Dn l 0 := fun a b _ h => by rw [Nat.zero_testBit] at h; cases h
/-- How many rows keep pairs: by the order that they come to. -/
theorem rows_eq {n : Nat} {l : List (Nat × Nat)} (hl : ∀ p ∈ l, p.1 < n ∧ p.2 < n) : (if irr n (clos n l) = true then rest n (mayO (clos n l)) 0 else 0) = rest n (mayB l) 0 := by
  rw [rest_nought, rest_nought]
  split
  · exact cnt_clos hl n 0 (dn_nought l)
  · rename_i h
    rw [irr_iff hl] at h
    apply Classical.byContradiction
    intro hc
    exact h fun q hq => cnt_loop n 0 (dn_nought l) (mis_nought n) (Ne.symm hc) q hq (Nat.zero_testBit q)
theorem prs_mem' {n : Nat} {ns : List Nat} (hv : Vld n ns) {a b : Nat} : (a, b) ∈ prsTo n (pf n ns false) n ↔ lt ns a b = true := by
  rw [prs_mem]
  simp only [pf, Bool.not_false, Bool.true_or, Bool.and_true]
  exact ⟨fun h => h.2.2, fun h => ⟨lt_lt hv.2 h, lt_lt' hv.1 h, h⟩⟩
theorem mayB_prs {n : Nat} {ns : List Nat} (hv : Vld n ns) (s p : Nat) : mayB (prsTo n (pf n ns false) n) s p = mayO ns s p := by
  rw [Bool.eq_iff_iff, mayO_iff, mayB_iff]
  exact and_congr_right fun _ => ⟨fun h a ha => h a ((prs_mem' hv).2 ha), fun h a ha => h a ((prs_mem' hv).1 ha)⟩
theorem rest_congr {n : Nat} {may may' : Nat → Nat → Bool} (h : ∀ s p, p < n → may s p = may' s p) (s : Nat) : rest n may s = rest n may' s := cnt_congr h _ s
end Go.Proofs.YtgojkabjgagjcaaDoor
set_option linter.unusedSimpArgs false
set_option linter.unusedVariables false
set_option linter.unusedSectionVars false
set_option maxRecDepth 20000
namespace Go.Proofs.YtgojkabjgagjcaaDoor
attribute [local irreducible] QOp aL aC qL
theorem bit_zero (s p : Nat) : decide (((s / 2 ^ p % 2 : Nat) : Int) = 0) = !s.testBit p := by
  rw [← bit_dec s p]
  have := Nat.mod_lt (s / 2 ^ p) (show 0 < 2 by decide)
  rw [← decide_not]
  exact decide_eq_decide.2 (by omega)
theorem ndiff_sub (x s : Nat) : decide (((ndiff x s : Nat) : Int) = 0) = sub x s := by
  unfold sub
  rw [Bool.eq_iff_iff, decide_eq_true_eq, beq_iff_eq]
  omega
/-- What has been summed up for a set, of the first p points. -/
def acc (n : Nat) (may : Nat → Nat → Bool) (s p : Nat) : Nat := (if s = 2 ^ n - 1 then 1 else 0) + sumTo (term n may s) p
theorem acc_le {n : Nat} (hn : n ≤ 10) (may : Nat → Nat → Bool) (s p : Nat) (hp : p ≤ n) : acc n may s p ≤ 200000000000 := by
  have h1 := sumTo_le (term_le hn may s) p
  have h2 : p * 10000000000 ≤ 10 * 10000000000 := Nat.mul_le_mul_right _ (by omega)
  unfold acc
  split <;> omega
theorem acc_fin {n : Nat} {may : Nat → Nat → Bool} (hm : ∀ s p, may s p = true → s.testBit p = false) {s : Nat} (hs : s < 2 ^ n) : acc n may s n = rest n may s := by
  unfold acc
  by_cases h : s = 2 ^ n - 1
  · rw [if_pos h, h, rest_full, sumTo_zero]
    intro i hi
    unfold term
    rw [if_neg]
    intro h2
    have := hm _ _ h2
    rw [Nat.testBit_two_pow_sub_one, decide_eq_true hi] at this
    cases this
  · rw [if_neg h, Nat.zero_add, rest_step hm hs h]
theorem set_twice (l : List Nat) (s u v : Nat) : (l.set s u).set s v = l.set s v := by
  apply List.ext_getElem
  · simp
  · intro i h1 h2
    simp only [List.getElem_set]
    split <;> rfl
/-- The table while a set is summed up. -/
def tby (n : Nat) (may : Nat → Nat → Bool) (s p : Nat) : List Nat := (tbl n may (s + 1)).set s (acc n may s p)
structure Tby (n : Nat) (may : Nat → Nat → Bool) (s p : Nat) (Y : List Nat) : Prop where
  len : Y.length = 2 ^ n
  at' : Y.getD s 0 ≤ 200000000000
  up : p < n → s.testBit p = false → Y.getD (s ||| 2 ^ p) 0 ≤ 10000000000
  keep : may s p = false → tby n may s (p + 1) = Y
  grow : p < n → may s p = true → tby n may s (p + 1) = Y.set s (Y.getD s 0 + Y.getD (s ||| 2 ^ p) 0)
  fin : p = n → Y = tbl n may s
theorem tby_ok {n : Nat} (hn : n ≤ 10) {may : Nat → Nat → Bool} (hm : ∀ s p, may s p = true → s.testBit p = false) {s p : Nat} (hs : s < 2 ^ n) (hp : p ≤ n) : Tby n may s p (tby n may s p) := by
  have h1 : (tby n may s p).getD s 0 = acc n may s p := by
    unfold tby
    rw [getD_setS _ _ _ _ (by rw [tbl_len]; exact hs), if_pos rfl]
  have h2 : p < n → s.testBit p = false → (tby n may s p).getD (s ||| 2 ^ p) 0 = rest n may (s ||| 2 ^ p) := fun hpn h => by
    have h1 := or_gt h
    unfold tby
    rw [getD_setS _ _ _ _ (by rw [tbl_len]; exact hs), if_neg (by omega), tbl_get (Nat.or_lt_two_pow hs (Nat.pow_lt_pow_right (by decide) hpn)), if_pos (by omega)]
  have h3 : acc n may s (p + 1) = acc n may s p + if may s p = true then rest n may (s ||| 2 ^ p) else 0 := by
    unfold acc
    rw [Nat.add_assoc]
    rfl
  refine ⟨by unfold tby; rw [List.length_set, tbl_len], by rw [h1]; exact acc_le hn may s p hp, fun hpn h => by rw [h2 hpn h]; exact rest_le hn may _, fun h => ?_, fun hpn h => ?_, fun h => ?_⟩
  · unfold tby
    rw [h3, if_neg (by rw [h]; decide)]
    rfl
  · rw [h1, h2 hpn (hm s p h)]
    unfold tby
    rw [h3, if_pos h, set_twice]
  · unfold tby
    rw [h, acc_fin hm hs, tbl_set]
theorem tby_zero {n s : Nat} (may : Nat → Nat → Bool) (hs : s ≠ 2 ^ n - 1) : tbl n may (s + 1) = tby n may s 0 := by
  unfold tby acc
  rw [if_neg hs]
  exact tbl_set0.symm
set_option maxHeartbeats 1000000 in
theorem counts_ac (n : Nat) (ns : List Nat) (hn : n ≤ 10) (hv : Vld n ns) : AC Tryd.prog 141 [ordv n (nl ns)] [] (.own 0) [.row 3 1 (intc (nl (tbl n (mayO ns) 0)))] := by
  have hlen := hv.1
  have hpn := p2_10 hn
  have hpos : 0 < 2 ^ n := Nat.pow_pos (by decide)
  have hrl : (List.replicate (2 ^ n) 0).length = 2 ^ n := List.length_replicate
  have hst : (List.replicate (2 ^ n) 0).set (2 ^ n - 1) 1 = tbl n (mayO ns) (2 ^ n - 1) := by
    have := tbl_set (n := n) (may := mayO ns) (s := 2 ^ n - 1)
    rw [show 2 ^ n - 1 + 1 = 2 ^ n by omega, tbl_nil, rest_full] at this
    exact this
  refine AC.mk (n := 59) (fn := Tryd.f141) Tryd.func141 (by kernel_rfl) rfl rfl rfl rfl (fun cx => ?_); dsimp only [argv, Nat.reduceAdd]
  (repeat' (first | refine a_seq ?_ | refine a_block ?_ | refine a_region ?_ | refine l_nil ?_ | ((first | apply w_q); (focus (first | exact Q_move (by conv => lhs; whnf) | exact Q_assign (by conv => lhs; whnf) | exact Q_fieldAddr_ptr rfl KFl.h | exact Q_load_ptr rfl rfl rfl KSc.h | exact Q_bit rfl rfl (by omega) | exact Q_sub rfl rfl (by omega))); (focus exact rfl)) | refine w_box rfl rfl (by first|(dsimp only[obA,obB,obD,obE,obF,obG,obI,List.map,AO.sh,AV.sh,AV.shl,Nat.reduceAdd];done)|exact rfl) (by first|(dsimp only[obA,obB,obD,obE,obF,obG,obI,List.map,AO.sh,AV.sh,AV.shl,Nat.reduceAdd];done)|exact rfl) rfl ?_ | refine w_st_nats rfl rfl rfl KSz.h (by omega) (by first|(dsimp only[obA,obB,obD,obE,obF,obG,obI,List.map,AO.sh,AV.sh,AV.shl,Nat.reduceAdd];done)|exact rfl) ?_ | refine w_mk_nats rfl rfl rfl KSl.h KMk.h (by omega) (by first|(dsimp only[obA,obB,obD,obE,obF,obG,obI,List.map,AO.sh,AV.sh,AV.shl,Nat.reduceAdd];done)|exact rfl) (by first|(dsimp only[obA,obB,obD,obE,obF,obG,obI,List.map,AO.sh,AV.sh,AV.shl,Nat.reduceAdd];done)|exact rfl) rfl ?_ | (((first | apply w_q); (focus exact Q_ix_ownN (o := 2 ^ n - 1) rfl rfl rfl (by omega) KSl.h (by omega)); (focus exact rfl))))); (try all_goals (try show retA _ _ _ _ _ _ _))
  refine w_loop (X := Nat) [1, 3] (by simp only [keepv, getv_cons, Nat.reduceEqDiff, ↓reduceIte]; exact rfl) (fun k => [(5, .val (.int .i64 ((k : Int) - 1)))]) (fun k => [.box [.val (.int .i64 n), ints (nl ns)], .row 3 1 (intc (nl (tbl n (mayO ns) k)))]) (fun k => k < 2 ^ n) (fun k => k) (2 ^ n - 1) ([0, 1]) ?_ ?_ rfl ?_ <;> (try dsimp only [List.cons_append, List.nil_append])
  · show 2 ^ n - 1 < 2 ^ n
    omega
  · rw [← hst]
    (refine St.le_mk rfl (VwOs.mk (by decide) ?_) ?_ <;> (repeat' (first | exact trivial | exact vwR rfl | exact Vw.ro _ | exact Vw.own _ _ rfl | exact Vw.ptr _ _ _ rfl | (refine Vw.int' ?_; first | rfl | omega | (simp; done)) | exact VwO.row _ _ _ | refine VwO.box' ?_ | refine ⟨⟨_, rfl, ?_⟩, ?_⟩ | refine ⟨?_, ?_⟩ )))
  rintro k hk
  rcases k with _ | s
  · (repeat' (first | refine a_seq ?_ | refine a_ret ?_ | refine a_exit ?_ | refine a_region ?_ | refine l_nil ?_ | ((first | apply w_q); (focus (first | exact Q_move (by conv => lhs; whnf) | exact Q_assign (by conv => lhs; whnf) | exact Q_geq rfl rfl)); (focus exact rfl)) | (refine a_cond rfl ?_ ?_ <;> (intro h; (try (have hp := of_decide_eq_true h)); (try (have hp := of_decide_eq_false h)); (try contradiction); (try (exfalso; omega)))))); (try all_goals (try show retA _ _ _ _ _ _ _))
    all_goals first
      | (exfalso; omega)
      | (refine ⟨[_], [1], ⟨resV_tmp (by conv => lhs; whnf), trivial⟩, VwOs.mk (by decide) ⟨⟨_, rfl, .row _ _ _⟩, trivial⟩, ?_, rfl⟩; (repeat' (first | exact Vw.own _ _ rfl)); done)
  have hs : s < 2 ^ n := by omega
  rw [show (((s + 1 : Nat) : Int) - 1) = (s : Int) by omega]
  have h00 := tby_zero (n := n) (s := s) (mayO ns) (by omega)
  (repeat' (first | refine a_seq ?_ | refine a_block ?_ | refine a_skip ?_ | refine a_region ?_ | refine l_nil ?_ | ((first | apply w_q); (focus (first | exact Q_move (by conv => lhs; whnf) | exact Q_fieldAddr_ptr rfl KFl.h | exact Q_load_ptr rfl rfl rfl KSc.h | exact Q_geq rfl rfl | exact Q_len_nats rfl KSl.h)); (focus exact rfl)) | (refine a_cond rfl ?_ ?_ <;> (intro h; (try (have hp := of_decide_eq_true h)); (try (have hp := of_decide_eq_false h)); (try contradiction); (try (exfalso; omega)))))); (try all_goals (try show retA _ _ _ _ _ _ _))
  refine w_loop (X := Nat) [1, 3, 5, 26, 27] (by simp only [keepv, getv_cons, Nat.reduceEqDiff, ↓reduceIte]; exact rfl) (fun p => [(28, .val (.int .i64 (p : Int)))]) (fun p => [.box [.val (.int .i64 n), ints (nl ns)], .row 3 1 (intc (nl (tby n (mayO ns) s p)))]) (fun p => p ≤ n) (fun p => n - p) (0) ([0, 1]) ?_ ?_ rfl ?_ <;> (try dsimp only [List.cons_append, List.nil_append])
  · exact Nat.zero_le _
  · rw [← h00]
    (refine St.le_mk rfl (VwOs.mk (by decide) ?_) ?_ <;> (repeat' (first | exact trivial | exact vwR rfl | exact Vw.ro _ | exact Vw.own _ _ rfl | exact Vw.ptr _ _ _ rfl | exact VwO.row _ _ _ | refine VwO.box' ?_ | refine ⟨⟨_, rfl, ?_⟩, ?_⟩ | refine ⟨?_, ?_⟩ )))
  rintro p hp2
  have hY := tby_ok hn (may := mayO ns) (fun s p h => mayO_not h) hs hp2
  generalize tby n (mayO ns) s p = Y at *
  have hYl := hY.len
  have hYa := hY.at'
  have hYu := hY.up
  have g3 := vget hv hn p
  have g4 := p2_10 (n := p) (by omega)
  have hor : p < n → s ||| 2 ^ p < 2 ^ n := fun h => Nat.or_lt_two_pow hs (Nat.pow_lt_pow_right (by decide) h)
  have bz := bit_zero s p
  have bs' := ndiff_sub (ns.getD p 0) s
  have hb0 : ((s / 2 ^ p % 2 : Nat) : Int) = 0 → s.testBit p = false := fun h => by
    rw [decide_eq_true h] at bz; simpa using bz.symm
  have hm : mayO ns s p = (!s.testBit p && sub (ns.getD p 0) s) := rfl
  (repeat' (first | refine a_seq ?_ | refine a_block ?_ | refine a_skip ?_ | refine a_exit ?_ | refine a_region ?_ | refine l_nil ?_ | refine q_nil ?_ | ((first | apply w_q | apply w_qq); (focus (first | exact Q_move (by conv => lhs; whnf) | exact Q_assign (by conv => lhs; whnf) | exact Q_lss rfl rfl | exact Q_eql rfl rfl | exact Q_add rfl rfl (by omega) | exact Q_shrN rfl rfl (by omega) | exact Q_and1 rfl rfl | exact Q_bit rfl rfl (by omega) | exact Q_sub rfl rfl (by omega) | exact Q_ix_nats rfl rfl rfl KSl.h (by omega) | exact Q_ix_ownN rfl rfl rfl rfl KSl.h (by omega) | exact Q_ld_nats rfl (by omega) KSc.h | exact Q_ld_ownN rfl rfl (by omega) KSc.h | exact Q_pick_t rfl (by assumption) (by conv => lhs; whnf) | exact Q_pick_f rfl (by assumption) (by conv => lhs; whnf))); (focus exact rfl)) | (refine a_cond rfl ?_ ?_ <;> (intro h; (try (have hp := of_decide_eq_true h)); (try (have hp := of_decide_eq_false h)); (try contradiction); (try (exfalso; omega)))) | refine w_guard_y rfl rfl rfl (by first | assumption | rfl) ?_ | refine w_guard_n rfl rfl rfl (by first | assumption | rfl) ?_ | ((first | refine w_guard rfl rfl rfl ?_ ?_) <;> (intro h; (try (have hp := of_decide_eq_true h)); (try (have hp := of_decide_eq_false h)); (try contradiction); (try (exfalso; omega)))) | refine a_drawT (id := 11) 13 (by kernel_rfl) (by kernel_rfl) (by simp only [List.take_succ_cons, List.take_zero, List.drop_succ_cons, List.drop_zero]; exact rfl) (by simp only [List.take_succ_cons, List.take_zero, List.drop_succ_cons, List.drop_zero]; exact rfl) ?_ | refine w_st_nats rfl rfl rfl KSz.h (by omega) (by first|(dsimp only[obA,obB,obD,obE,obF,obG,obI,List.map,AO.sh,AV.sh,AV.shl,Nat.reduceAdd];done)|exact rfl) ?_ | (((first | apply w_q | apply w_qq); (focus exact Q_andNotN rfl rfl (by omega) (by omega)); (focus exact rfl))) | (((first | apply w_qq); (focus exact Q_orN rfl rfl (by omega) (by omega)); (focus exact rfl))) | (((first | apply w_qq); (focus exact Q_addN rfl rfl (by have := hYu (by omega) (hb0 (by assumption)); omega)); (focus exact rfl))))); (try all_goals (try show retA _ _ _ _ _ _ _))
  · refine ⟨p + 1, [0, 1], ?_, ?_, ?_, rfl⟩ <;> (try dsimp only)
    · omega
    · omega
    · rw [hY.grow (by omega) (by rw [hm, ← bz, ← bs', decide_eq_true (by assumption), decide_eq_true (by assumption)]; rfl)]
      (refine St.le_mk rfl (VwOs.mk (by decide) ?_) ?_ <;> (repeat' (first | exact trivial | exact vwR rfl | exact Vw.ro _ | exact Vw.own _ _ rfl | exact Vw.ptr _ _ _ rfl | exact VwO.row _ _ _ | refine VwO.box' ?_ | refine ⟨⟨_, rfl, ?_⟩, ?_⟩ | refine ⟨?_, ?_⟩ )))
  · refine ⟨p + 1, [0, 1], ?_, ?_, ?_, rfl⟩ <;> (try dsimp only)
    · omega
    · omega
    · rw [hY.keep (by rw [hm, ← bs', decide_eq_false (by assumption), Bool.and_false])]
      (refine St.le_mk rfl (VwOs.mk (by decide) ?_) ?_ <;> (repeat' (first | exact trivial | exact vwR rfl | exact Vw.ro _ | exact Vw.own _ _ rfl | exact Vw.ptr _ _ _ rfl | exact VwO.row _ _ _ | refine VwO.box' ?_ | refine ⟨⟨_, rfl, ?_⟩, ?_⟩ | refine ⟨?_, ?_⟩ )))
  · refine ⟨p + 1, [0, 1], ?_, ?_, ?_, rfl⟩ <;> (try dsimp only)
    · omega
    · omega
    · rw [hY.keep (by rw [hm, ← bz, decide_eq_false (by assumption), Bool.false_and])]
      (refine St.le_mk rfl (VwOs.mk (by decide) ?_) ?_ <;> (repeat' (first | exact trivial | exact vwR rfl | exact Vw.ro _ | exact Vw.own _ _ rfl | exact Vw.ptr _ _ _ rfl | exact VwO.row _ _ _ | refine VwO.box' ?_ | refine ⟨⟨_, rfl, ?_⟩, ?_⟩ | refine ⟨?_, ?_⟩ )))
  · obtain rfl : p = n := by omega
    refine ⟨s, [0, 1], ?_, ?_, ?_, rfl⟩ <;> (try dsimp only)
    · omega
    · omega
    · rw [← hY.fin rfl]
      (refine St.le_mk rfl (VwOs.mk (by decide) ?_) ?_ <;> (repeat' (first | exact trivial | exact vwR rfl | exact Vw.ro _ | exact Vw.own _ _ rfl | exact Vw.ptr _ _ _ rfl | exact VwO.row _ _ _ | refine VwO.box' ?_ | refine ⟨⟨_, rfl, ?_⟩, ?_⟩ | refine ⟨?_, ?_⟩ )))
end Go.Proofs.YtgojkabjgagjcaaDoor
