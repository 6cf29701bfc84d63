import Derived.Test.YtbgecpjlopdkfaaDoorGc
import Derived.Test.YtbgecpjlopdkfaaDoorGa
import Derived.Test.YtbgecpjlopdkfaaDoorFf
import Derived.Test.YtbgecpjlopdkfaaDoorEngA
set_option linter.unusedSimpArgs false
set_option linter.unusedVariables false
set_option linter.unusedSectionVars false
set_option maxRecDepth 20000
namespace Go.Proofs.YtbgecpjlopdkfaaDoor
attribute [local irreducible] QOp aL aC qL
/-- The first thing that is wrong with orders. -/
def chks : List (Int × List Int) → Int
  | [] => 0
  | p :: r => if chk p.1 p.2 ≠ 0 then chk p.1 p.2 else chks r
def timesP (m : Nat) (ns ms : List Nat) (x y : Nat) : Bool := decide (x ≠ y) && uptoB ns (x / m) (y / m) && uptoB ms (x % m) (y % m)
end Go.Proofs.YtbgecpjlopdkfaaDoor
set_option linter.unusedSimpArgs false
set_option linter.unusedVariables false
set_option linter.unusedSectionVars false
set_option maxRecDepth 20000
namespace Go.Proofs.YtbgecpjlopdkfaaDoor
attribute [local irreducible] QOp aL aC qL
/-- b is reached from a. -/
inductive Reach (l : List (Nat × Nat)) : Nat → Nat → Prop where
  | one {a b : Nat} (h : (a, b) ∈ l) : Reach l a b
  | more {a c b : Nat} (h : Reach l a c) (h2 : (c, b) ∈ l) : Reach l a b
theorem Reach.trans {l : List (Nat × Nat)} {a b c : Nat} (h : Reach l a b) (h2 : Reach l b c) : Reach l a c := by
  induction h2 with
  | one h3 => exact .more h h3
  | more _ h3 ih => exact .more ih h3
theorem Reach.mono {l l' : List (Nat × Nat)} (hl : ∀ p ∈ l, p ∈ l') {a b : Nat} (h : Reach l a b) : Reach l' a b := by
  induction h with
  | one h3 => exact .one (hl _ h3)
  | more _ h3 ih => exact .more ih (hl _ h3)
theorem getD_set3 (l : List Nat) (x v b : Nat) (hx : x < l.length) : (l.set x v).getD b 0 = if b = x then v else l.getD b 0 := by
  simp only [List.getD_eq_getElem?_getD, List.getElem?_set]
  by_cases h : x = b
  · subst h; simp [hx]
  · simp [h, Ne.symm h]
theorem lt_set {ns : List Nat} {b v x y : Nat} (hb : b < ns.length) : lt (ns.set b v) x y = if y = b then v.testBit x else lt ns x y := by
  unfold lt
  rw [getD_set3 _ _ _ _ hb]
  split <;> rfl
/-! The pairs, one by one. -/
theorem stA_iff {n : Nat} {l : List (Nat × Nat)} (hl : ∀ p ∈ l, p.1 < n ∧ p.2 < n) (x y : Nat) : ∀ k, k ≤ l.length → (lt (iterN k (stA l) (List.replicate n 0)) x y = true ↔ ∃ i, i < k ∧ l.getD i (0, 0) = (x, y))
  | 0, _ => by
    constructor
    · intro h
      unfold lt iterN at h
      rw [List.getD_eq_getElem?_getD, List.getElem?_replicate] at h
      split at h <;> simp at h
    · rintro ⟨i, hi, _⟩; omega
  | k + 1, hk => by
    have ih := stA_iff hl x y k (by omega)
    have hv : Vld n (iterN k (stA l) (List.replicate n 0)) := iterN_inv k (Vld.rep n) fun i y hi hy => stA_vld hl (by omega) hy
    have hm : (l.getD k (0, 0)).2 < n := by
      rw [List.getD_eq_getElem?_getD, List.getElem?_eq_getElem (by omega)]
      exact (hl _ (List.getElem_mem _)).2
    show lt (stA l k (iterN k (stA l) (List.replicate n 0))) x y = true ↔ _
    generalize iterN k (stA l) (List.replicate n 0) = ns at *
    unfold stA
    rw [lt_set (by have := hv.1; omega)]
    have e : (if y = (l.getD k (0, 0)).2 then (ns.getD (l.getD k (0, 0)).2 0 ||| 2 ^ (l.getD k (0, 0)).1).testBit x else lt ns x y) = true ↔ lt ns x y = true ∨ l.getD k (0, 0) = (x, y) := by
      by_cases hy : y = (l.getD k (0, 0)).2
      · subst hy
        rw [if_pos rfl, Nat.testBit_or, Nat.testBit_two_pow, Bool.or_eq_true, decide_eq_true_eq]
        unfold lt
        constructor
        · rintro (h | h)
          · exact .inl h
          · exact .inr (Prod.ext h rfl)
        · rintro (h | h)
          · exact .inl h
          · exact .inr (by rw [h])
      · rw [if_neg hy]
        constructor
        · exact .inl
        · rintro (h | h)
          · exact h
          · exact absurd (by rw [h]) hy
    rw [e, ih]
    constructor
    · rintro (⟨i, hi, h⟩ | h)
      · exact ⟨i, by omega, h⟩
      · exact ⟨k, by omega, h⟩
    · rintro ⟨i, hi, h⟩
      by_cases hik : i = k
      · subst hik; exact .inr h
      · exact .inl ⟨i, by omega, h⟩
theorem stA_mem {n : Nat} {l : List (Nat × Nat)} (hl : ∀ p ∈ l, p.1 < n ∧ p.2 < n) (x y : Nat) : lt (iterN l.length (stA l) (List.replicate n 0)) x y = true ↔ (x, y) ∈ l := by
  rw [stA_iff hl x y l.length (Nat.le_refl _)]
  constructor
  · rintro ⟨i, hi, h⟩
    rw [List.getD_eq_getElem?_getD, List.getElem?_eq_getElem hi] at h
    rw [← h]
    exact List.getElem_mem hi
  · intro h
    obtain ⟨i, hi, h⟩ := List.getElem_of_mem h
    exact ⟨i, hi, by rw [List.getD_eq_getElem?_getD, List.getElem?_eq_getElem hi]; exact h⟩
/-! One round. -/
theorem stB_lt {n k : Nat} {ns : List Nat} (hv : Vld n ns) (x y : Nat) : ∀ b, b ≤ n → lt (iterN b (stB k) ns) x y = (lt ns x y || (decide (y < b) && (lt ns k y && lt ns x k)))
  | 0, _ => by simp [iterN]
  | b + 1, hb => by
    have ih := fun x y => stB_lt (k := k) hv x y b (by omega)
    have hw : Vld n (iterN b (stB k) ns) := rowB_vld hv
    have h1 : lt (iterN b (stB k) ns) k b = lt ns k b := by rw [ih]; simp
    have h2 : lt (iterN b (stB k) ns) x b = lt ns x b := by rw [ih]; simp
    have h3 : lt (iterN b (stB k) ns) x k = lt ns x k := by
      rw [ih]
      cases lt ns x k <;> simp
    have h4 := ih x y
    show lt (stB k b (iterN b (stB k) ns)) x y = _
    generalize iterN b (stB k) ns = m at *
    unfold stB
    rw [h1]
    cases hkb : lt ns k b
    · rw [if_neg (by decide), h4]
      by_cases hyb : y = b
      · subst hyb; simp [hkb]
      · rw [show decide (y < b + 1) = decide (y < b) from decide_eq_decide.2 (by omega)]
    · rw [if_pos rfl, lt_set (by have := hw.1; omega)]
      by_cases hyb : y = b
      · subst hyb
        rw [if_pos rfl, Nat.testBit_or]
        have e1 : (m.getD y 0).testBit x = lt ns x y := h2
        have e2 : (m.getD k 0).testBit x = lt ns x k := h3
        rw [e1, e2, hkb, decide_eq_true (by omega)]
        simp
      · rw [if_neg hyb, h4, show decide (y < b + 1) = decide (y < b) from decide_eq_decide.2 (by omega)]
theorem rowB_lt {n k : Nat} {ns : List Nat} (hv : Vld n ns) {x y : Nat} (hy : y < n) : lt (rowB n k ns) x y = (lt ns x y || (lt ns k y && lt ns x k)) := by
  unfold rowB
  rw [stB_lt hv x y n (Nat.le_refl n), decide_eq_true hy, Bool.true_and]
structure War (n : Nat) (l : List (Nat × Nat)) (k : Nat) (ns : List Nat) : Prop where
  vld : Vld n ns
  sound : ∀ x y, y < n → lt ns x y = true → Reach l x y
  keep : ∀ x y, (x, y) ∈ l → lt ns x y = true
  tr : ∀ c, c < k → ∀ x y, y < n → lt ns x c = true → lt ns c y = true → lt ns x y = true
theorem war {n : Nat} {l : List (Nat × Nat)} (hl : ∀ p ∈ l, p.1 < n ∧ p.2 < n) : ∀ k, k ≤ n → War n l k (iterN k (rowB n) (iterN l.length (stA l) (List.replicate n 0)))
  | 0, _ => by
    have hv : Vld n (iterN l.length (stA l) (List.replicate n 0)) := iterN_inv _ (Vld.rep n) fun i y hi hy => stA_vld hl (by omega) hy
    exact ⟨hv, fun x y _ h => .one ((stA_mem hl x y).1 h), fun x y h => (stA_mem hl x y).2 h, fun c hc => by omega⟩
  | k + 1, hk => by
    have ih := war hl k (by omega)
    show War n l (k + 1) (rowB n k (iterN k (rowB n) (iterN l.length (stA l) (List.replicate n 0))))
    generalize iterN k (rowB n) (iterN l.length (stA l) (List.replicate n 0)) = ns at *
    have e := fun x y (hy : y < n) => rowB_lt (k := k) ih.vld (x := x) (y := y) hy
    refine ⟨rowB_vld ih.vld, fun x y hy h => ?_, fun x y h => ?_, fun c hc x y hy h1 h2 => ?_⟩
    · rw [e x y hy, Bool.or_eq_true, Bool.and_eq_true] at h
      rcases h with h | ⟨h1, h2⟩
      · exact ih.sound x y hy h
      · exact (ih.sound x k (by omega) h2).trans (ih.sound k y hy h1)
    · rw [e x y (hl _ h).2, ih.keep x y h]; rfl
    · have hcn : c < n := by omega
      rw [e x c hcn, Bool.or_eq_true, Bool.and_eq_true] at h1
      rw [e c y hy, Bool.or_eq_true, Bool.and_eq_true] at h2
      rw [e x y hy, Bool.or_eq_true, Bool.and_eq_true]
      have tr := ih.tr
      by_cases hck : c = k
      · subst hck
        have g1 : lt ns x c = true := by
          rcases h1 with h1 | ⟨_, h1⟩ <;> exact h1
        have g2 : lt ns c y = true := by
          rcases h2 with h2 | ⟨h2, _⟩ <;> exact h2
        exact .inr ⟨g2, g1⟩
      · have hck : c < k := by omega
        have hkn : k < n := by omega
        rcases h1 with h1 | ⟨h1, h1'⟩
        · rcases h2 with h2 | ⟨h2, h2'⟩
          · exact .inl (tr c hck x y hy h1 h2)
          · exact .inr ⟨h2, tr c hck x k hkn h1 h2'⟩
        · rcases h2 with h2 | ⟨h2, h2'⟩
          · exact .inr ⟨tr c hck k y hy h1 h2, h1'⟩
          · exact .inr ⟨h2, h1'⟩
theorem clos_vld {n : Nat} {l : List (Nat × Nat)} (hl : ∀ p ∈ l, p.1 < n ∧ p.2 < n) : Vld n (clos n l) := (war hl n (Nat.le_refl n)).vld
theorem Reach.lt {n : Nat} {l : List (Nat × Nat)} (hl : ∀ p ∈ l, p.1 < n ∧ p.2 < n) {x y : Nat} (h : Reach l x y) : x < n ∧ y < n := by
  induction h with
  | one h => exact hl _ h
  | more _ h ih => exact ⟨ih.1, (hl _ h).2⟩
/-- The order of pairs. -/
theorem clos_iff {n : Nat} {l : List (Nat × Nat)} (hl : ∀ p ∈ l, p.1 < n ∧ p.2 < n) {x y : Nat} (hy : y < n) : Go.Proofs.YtbgecpjlopdkfaaDoor.lt (clos n l) x y = true ↔ Reach l x y := by
  have w := war hl n (Nat.le_refl n)
  constructor
  · exact w.sound x y hy
  · intro h
    induction h with
    | one h => exact w.keep _ _ h
    | more h1 h2 ih =>
      have hc := (hl _ h2).1
      exact w.tr _ hc _ _ hy (ih hc) (w.keep _ _ h2)
theorem irr_iff {n : Nat} {l : List (Nat × Nat)} (hl : ∀ p ∈ l, p.1 < n ∧ p.2 < n) : irr n (clos n l) = true ↔ ∀ q, q < n → ¬ Reach l q q := by
  unfold irr
  simp only [List.all_eq_true, List.mem_range, Bool.not_eq_true']
  constructor
  · intro h q hq hr
    have := h q hq
    rw [(clos_iff hl hq).2 hr] at this
    cases this
  · intro h q hq
    cases hc : Go.Proofs.YtbgecpjlopdkfaaDoor.lt (clos n l) q q
    · rfl
    · exact absurd ((clos_iff hl hq).1 hc) (h q hq)
end Go.Proofs.YtbgecpjlopdkfaaDoor
set_option linter.unusedSimpArgs false
set_option linter.unusedVariables false
set_option linter.unusedSectionVars false
set_option maxRecDepth 20000
namespace Go.Proofs.YtbgecpjlopdkfaaDoor
def sumTo (g : Nat → Nat) : Nat → Nat
  | 0 => 0
  | k + 1 => sumTo g k + g k
theorem sumTo_congr {g g' : Nat → Nat} : ∀ {k : Nat}, (∀ i, i < k → g i = g' i) → sumTo g k = sumTo g' k
  | 0, _ => rfl
  | k + 1, h => by
    show sumTo g k + g k = sumTo g' k + g' k
    rw [sumTo_congr (k := k) fun i hi => h i (by omega), h k (by omega)]
theorem sumTo_le {g : Nat → Nat} {M : Nat} (h : ∀ i, g i ≤ M) : ∀ k, sumTo g k ≤ k * M
  | 0 => by simp [sumTo]
  | k + 1 => by
    have := sumTo_le h k
    have := h k
    show sumTo g k + g k ≤ _
    rw [Nat.succ_mul]; omega
theorem sumTo_zero {g : Nat → Nat} : ∀ {k : Nat}, (∀ i, i < k → g i = 0) → sumTo g k = 0
  | 0, _ => rfl
  | k + 1, h => by
    show sumTo g k + g k = 0
    rw [sumTo_zero (k := k) fun i hi => h i (by omega), h k (by omega)]
theorem sumTo_pos {g : Nat → Nat} : ∀ {k : Nat}, sumTo g k ≠ 0 → ∃ i, i < k ∧ g i ≠ 0
  | 0, h => absurd rfl h
  | k + 1, h => by
    by_cases hk : g k = 0
    · have h' : sumTo g k ≠ 0 := fun h2 => h (by show sumTo g k + g k = 0; omega)
      obtain ⟨i, hi, h3⟩ := sumTo_pos h'
      exact ⟨i, by omega, h3⟩
    · exact ⟨k, by omega, hk⟩
theorem sumTo_mul (g : Nat → Nat) (c : Nat) : ∀ k, sumTo (fun i => c * g i) k = c * sumTo g k
  | 0 => by simp [sumTo]
  | k + 1 => by
    show sumTo (fun i => c * g i) k + c * g k = c * (sumTo g k + g k)
    rw [sumTo_mul g c k, Nat.mul_add]
theorem sumTo_add (g g' : Nat → Nat) : ∀ k, sumTo (fun i => g i + g' i) k = sumTo g k + sumTo g' k
  | 0 => by simp [sumTo]
  | k + 1 => by
    show sumTo (fun i => g i + g' i) k + (g k + g' k) = (sumTo g k + g k) + (sumTo g' k + g' k)
    rw [sumTo_add g g' k]; omega
/-- A list of numbers, each of them taken so many times. -/
def dot (w : List Nat) (m : Nat → Nat) (k : Nat) : Nat := sumTo (fun t => w.getD t 0 * m t) k
theorem getD_setS (l : List Nat) (x v b : Nat) (hx : x < l.length) : (l.set x v).getD b 0 = if b = x then v else l.getD b 0 := by
  simp only [List.getD_eq_getElem?_getD, List.getElem?_set]
  by_cases h : x = b
  · subst h; simp [hx]
  · simp [h, Ne.symm h]
end Go.Proofs.YtbgecpjlopdkfaaDoor
