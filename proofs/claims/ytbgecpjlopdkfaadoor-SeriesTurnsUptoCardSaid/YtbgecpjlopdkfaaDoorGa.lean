import Derived.Test.YtbgecpjlopdkfaaDoorFn
import Derived.Test.YtbgecpjlopdkfaaDoorFc
import Derived.Test.YtbgecpjlopdkfaaDoorFe
set_option linter.unusedSimpArgs false
set_option linter.unusedVariables false
set_option linter.unusedSectionVars false
set_option maxRecDepth 20000
namespace Go.Proofs.YtbgecpjlopdkfaaDoor
attribute [local irreducible] QOp aL aC qL
def sub (a b : Nat) : Bool := ndiff a b == 0
theorem sub_iff {a b : Nat} : sub a b = true ↔ ∀ i, a.testBit i = true → b.testBit i = true := by
  unfold sub; rw [beq_iff_eq]; exact ndiff_zero
theorem sub_false {a b i : Nat} (h1 : a.testBit i = true) (h2 : b.testBit i = false) : sub a b = false := by
  cases h : sub a b
  · rfl
  · have := sub_iff.1 h i h1
    rw [h2] at this; cases this

theorem bit_odd (x j : Nat) : (x / 2 ^ j % 2 = 1) ↔ x.testBit j = true := by rw [Nat.testBit_eq_decide_div_mod_eq, decide_eq_true_eq]

theorem Inside_ac (a b : Nat) (ha : a ≤ 9223372036854775807) (hb : b ≤ 9223372036854775807) : AC Tryd.prog 112 [.val (.int .i64 a), .val (.int .i64 b)] [] (.val (.bool (sub a b))) [] := by
  refine AC.mk (n := 19) (fn := Tryd.f112) Tryd.func112 (by kernel_rfl) rfl rfl rfl rfl (fun cx => ?_); dsimp only [argv, Nat.reduceAdd]
  (repeat' (first | refine a_seq ?_ | refine a_block ?_ | refine a_region ?_ | refine l_nil ?_ | (apply w_q; (focus (first | exact Q_assign (by conv => lhs; whnf))); (focus exact rfl)))); (try all_goals (try show retA _ _ _ _ _ _ _))
  refine w_loop (X := Nat) [] (by simp only [keepv, getv_cons, Nat.reduceEqDiff, ↓reduceIte]; exact rfl) (fun j => [(0, .val (.int .i64 ((a / 2 ^ j : Nat) : Int))), (1, .val (.int .i64 ((b / 2 ^ j : Nat) : Int)))]) (fun j => []) (fun j => ∀ i, i < j → a.testBit i = true → b.testBit i = true) (fun j => a / 2 ^ j) (0) ([]) ?_ ?_ rfl ?_ <;> (try dsimp only [List.cons_append, List.nil_append])
  · exact fun i h => by omega
  · (refine St.le_mk rfl (VwOs.mk (by decide) ?_) ?_ <;> (repeat' (first | exact trivial | (refine Vw.int' ?_; first | rfl | omega | (simp; done)) | refine ⟨?_, ?_⟩ )))
  rintro j hj
  have h1 : a / 2 ^ j ≤ 9223372036854775807 := Nat.le_trans (Nat.div_le_self _ _) ha
  have h2 : b / 2 ^ j ≤ 9223372036854775807 := Nat.le_trans (Nat.div_le_self _ _) hb
  (repeat' (first | refine a_seq ?_ | refine a_block ?_ | refine a_skip ?_ | refine a_ret ?_ | refine a_exit ?_ | refine a_region ?_ | refine l_nil ?_ | (apply w_q; (focus (first | exact Q_move (by conv => lhs; whnf) | exact Q_assign (by conv => lhs; whnf) | exact Q_gtr rfl rfl | exact Q_eql rfl rfl | exact Q_rem2 rfl rfl | exact Q_pick_t rfl (by assumption) (by conv => lhs; whnf) | exact Q_pick_f rfl (by assumption) (by conv => lhs; whnf))); (focus exact rfl)) | (refine a_cond rfl ?_ ?_ <;> (intro h; (try (have hp := of_decide_eq_true h)); (try (have hp := of_decide_eq_false h)); (try contradiction); (try (exfalso; omega)))) | refine w_guard_y rfl rfl rfl (by first | assumption | rfl) ?_ | refine w_guard_n rfl rfl rfl (by first | assumption | rfl) ?_ | (refine w_guard rfl rfl rfl ?_ ?_ <;> (intro h; (try (have hp := of_decide_eq_true h)); (try (have hp := of_decide_eq_false h)); (try contradiction); (try (exfalso; omega)))) | (((first | apply w_q); (focus exact Q_quo2 rfl rfl h1); (focus exact rfl))) | (((first | apply w_q); (focus exact Q_quo2 rfl rfl h2); (focus exact rfl))))); (try all_goals (try show retA _ _ _ _ _ _ _))
  · refine ⟨[_], [], ⟨resV_tmp (by conv => lhs; whnf), trivial⟩, VwOs.mk (by decide) trivial, ?_, rfl⟩
    have e1 : a / 2 ^ j % 2 = 1 := by omega
    have e2 : b / 2 ^ j % 2 = 0 := by omega
    exact Vw.bool' (sub_false ((bit_odd a j).1 e1) (by cases hq : b.testBit j; rfl; have := (bit_odd b j).2 hq; omega)).symm
  · refine ⟨j + 1, [], ?_, ?_, ?_, rfl⟩ <;> (try dsimp only)
    · intro i hi hai
      by_cases hq : i = j
      · subst hq
        exact (bit_odd b i).1 (by omega)
      · exact hj i (by omega) hai
    · rw [← half_pow]; omega
    · rw [half_pow, half_pow]; (refine St.le_mk rfl (VwOs.mk (by decide) ?_) ?_ <;> (repeat' (first | exact trivial | exact vwR rfl | refine ⟨?_, ?_⟩ )))
  · refine ⟨j + 1, [], ?_, ?_, ?_, rfl⟩ <;> (try dsimp only)
    · intro i hi hai
      by_cases hq : i = j
      · subst hq
        have := (bit_odd a i).2 hai
        omega
      · exact hj i (by omega) hai
    · rw [← half_pow]; omega
    · rw [half_pow, half_pow]; (refine St.le_mk rfl (VwOs.mk (by decide) ?_) ?_ <;> (repeat' (first | exact trivial | exact vwR rfl | refine ⟨?_, ?_⟩ )))
  · refine ⟨[_], [], ⟨resV_tmp (by conv => lhs; whnf), trivial⟩, VwOs.mk (by decide) trivial, ?_, rfl⟩
    refine Vw.bool' (sub_iff.2 fun i hi => ?_).symm
    by_cases hij : i < j
    · exact hj i hij hi
    · exfalso
      have h0 : a / 2 ^ j = 0 := by clear hj; generalize a / 2 ^ j = q at *; omega
      have hlt : a < 2 ^ j := by
        rcases (Nat.div_eq_zero_iff).1 h0 with h6 | h6
        · have : 0 < 2 ^ j := Nat.pow_pos (by decide)
          omega
        · exact h6
      rw [Nat.testBit_lt_two_pow (Nat.lt_of_lt_of_le hlt (Nat.pow_le_pow_right (by decide) (by omega)))] at hi
      cases hi

def risesP (n : Nat) (f : List Int) : Bool := (List.range (2 ^ n)).all fun s => (List.range n).all fun p => !decide (f.getD (s ||| 2 ^ p) 0 < f.getD s 0)
def rising (n : Nat) (f : List Int) : Bool := (List.range (2 ^ n)).all fun a => (List.range (2 ^ n)).all fun b => !(sub a b && decide (f.getD a 0 > f.getD b 0))

/-! Walked. -/
end Go.Proofs.YtbgecpjlopdkfaaDoor
set_option linter.unusedSimpArgs false
set_option linter.unusedVariables false
set_option linter.unusedSectionVars false
set_option maxRecDepth 20000
namespace Go.Proofs.YtbgecpjlopdkfaaDoor
attribute [local irreducible] QOp aL aC qL
theorem numberIs_ac (n e w want : Int) : AC Tryd.prog 31 [.val (.int .i64 n), .val (.int .i64 e), .val (.int .i64 w), .val (.int .i64 want)] [] (.val (.bool (decide (e = w) && decide (n = if w = 0 then want else 0)))) [] := by
  refine AC.mk (n := 19) (fn := Tryd.f31) Tryd.func31 (by kernel_rfl) rfl rfl rfl rfl (fun cx => ?_); dsimp only [argv, Nat.reduceAdd]
  (repeat' (first | refine a_seq ?_ | refine a_skip ?_ | refine a_ret ?_ | refine a_region ?_ | refine l_nil ?_ | (apply w_q; (focus (first | exact Q_move (by conv => lhs; whnf) | exact Q_assign (by conv => lhs; whnf) | exact Q_eql rfl rfl | exact Q_neq rfl rfl | exact Q_pick_t rfl (by assumption) (by conv => lhs; whnf) | exact Q_pick_f rfl (by assumption) (by conv => lhs; whnf))); (focus exact rfl)) | (refine a_cond rfl ?_ ?_ <;> (intro h; (try (have hp := of_decide_eq_true h)); (try (have hp := of_decide_eq_false h)); (try contradiction); (try (exfalso; omega)))) | refine w_guard_y rfl rfl rfl (by first | assumption | rfl) ?_ | refine w_guard_n rfl rfl rfl (by first | assumption | rfl) ?_ | (refine w_guard rfl rfl rfl ?_ ?_ <;> (intro h; (try (have hp := of_decide_eq_true h)); (try (have hp := of_decide_eq_false h)); (try contradiction); (try (exfalso; omega)))))); (try all_goals (try show retA _ _ _ _ _ _ _))
  all_goals
    refine ⟨[_], [], ⟨resV_tmp (by conv => lhs; whnf), trivial⟩, VwOs.mk (by decide) trivial, ?_, rfl⟩
    exact Vw.bool' (by simp_all)
end Go.Proofs.YtbgecpjlopdkfaaDoor
set_option linter.unusedSimpArgs false
set_option linter.unusedVariables false
set_option linter.unusedSectionVars false
set_option maxRecDepth 20000
namespace Go.Proofs.YtbgecpjlopdkfaaDoor
attribute [local irreducible] QOp aL aC qL
/-- A list of weights of the sets of n points. -/
def Wts (n : Nat) (f : List Int) : Prop := f.length = 2 ^ n ∧ ∀ w ∈ f, 0 ≤ w ∧ w ≤ 1000
theorem Wts.get {n : Nat} {f : List Int} (h : Wts n f) (s : Nat) : 0 ≤ f.getD s 0 ∧ f.getD s 0 ≤ 1000 := by
  rw [List.getD_eq_getElem?_getD]
  cases hk : f[s]? with
  | none => simp
  | some x => exact h.2 x (List.mem_of_getElem? hk)
def four (n : Nat) (a b c d : List Int) : Bool := (List.range (2 ^ n)).all fun s => (List.range (2 ^ n)).all fun t => !decide (a.getD s 0 * b.getD t 0 > c.getD (s ||| t) 0 * d.getD (s &&& t) 0)
end Go.Proofs.YtbgecpjlopdkfaaDoor
set_option linter.unusedSimpArgs false
set_option linter.unusedVariables false
set_option linter.unusedSectionVars false
set_option maxRecDepth 20000
namespace Go.Proofs.YtbgecpjlopdkfaaDoor
attribute [local irreducible] QOp aL aC qL
theorem or_add_and (n : Nat) : ∀ (a b : Nat), a < 2 ^ n → a + b = (a ||| b) + (a &&& b) := by
  induction n with
  | zero => intro a b ha; obtain rfl : a = 0 := by simpa using ha
            simp
  | succ n ih =>
    intro a b ha
    have h1 := ih (a / 2) (b / 2) (by rw [Nat.pow_succ] at ha; omega)
    have h2 : (a ||| b) / 2 = a / 2 ||| b / 2 := Nat.or_div_two
    have h3 : (a &&& b) / 2 = a / 2 &&& b / 2 := Nat.and_div_two
    have h4 : (a ||| b) % 2 + (a &&& b) % 2 = a % 2 + b % 2 := by
      have e1 : (a ||| b) % 2 = 1 ↔ (a % 2 = 1 ∨ b % 2 = 1) := Nat.or_mod_two_eq_one
      have e2 : (a &&& b) % 2 = 1 ↔ (a % 2 = 1 ∧ b % 2 = 1) := Nat.and_mod_two_eq_one
      omega
    omega
end Go.Proofs.YtbgecpjlopdkfaaDoor
set_option linter.unusedSimpArgs false
set_option linter.unusedVariables false
set_option linter.unusedSectionVars false
set_option maxRecDepth 20000
namespace Go.Proofs.YtbgecpjlopdkfaaDoor
attribute [local irreducible] QOp aL aC qL
/-- The set of the points below k of which p holds. -/
def bs (p : Nat → Bool) : Nat → Nat
  | 0 => 0
  | k + 1 => if p k = true then bs p k + 2 ^ k else bs p k
theorem bs_lt (p : Nat → Bool) : ∀ k, bs p k < 2 ^ k
  | 0 => by rw [bs]; decide
  | k + 1 => by
    have ih := bs_lt p k
    rw [bs, Nat.pow_succ]
    split <;> omega
theorem bs_bit (p : Nat → Bool) (j : Nat) : ∀ k, (bs p k).testBit j = (decide (j < k) && p j)
  | 0 => by rw [bs]; simp
  | k + 1 => by
    have ih := bs_bit p j k
    have hl := bs_lt p k
    rw [bs]
    split
    · rename_i h
      have e : bs p k + 2 ^ k = 2 ^ k ||| bs p k := by
        have := Nat.two_pow_add_eq_or_of_lt hl 1
        rw [Nat.mul_one] at this
        omega
      rw [e, Nat.testBit_or, Nat.testBit_two_pow, ih]
      by_cases hjk : j = k
      · subst hjk; rw [h]; simp
      · simp [Ne.symm hjk, show j < k + 1 ↔ j < k by omega]
    · rename_i h
      rw [ih]
      by_cases hjk : j = k
      · subst hjk; rw [Bool.eq_false_iff.2 h]; simp
      · simp [show j < k + 1 ↔ j < k by omega]
/-- The order of n points by what is below what. -/
def ofTo (n : Nat) (p : Nat → Nat → Bool) (k : Nat) : List Nat := (List.range k).map fun b => bs (fun a => p a b) n
def ofn (n : Nat) (p : Nat → Nat → Bool) : List Nat := ofTo n p n
theorem ofTo_len (n : Nat) (p : Nat → Nat → Bool) (k : Nat) : (ofTo n p k).length = k := by simp [ofTo]
theorem ofTo_get {n k b : Nat} (p : Nat → Nat → Bool) (h : b < k) : (ofTo n p k).getD b 0 = bs (fun a => p a b) n := by
  simp [ofTo, List.getD_eq_getElem?_getD, h]
theorem ofTo_succ (n : Nat) (p : Nat → Nat → Bool) (k : Nat) : ofTo n p (k + 1) = ofTo n p k ++ [bs (fun a => p a k) n] := by
  simp [ofTo, List.range_succ]
theorem ofn_len (n : Nat) (p : Nat → Nat → Bool) : (ofn n p).length = n := ofTo_len n p n
theorem ofn_get {n b : Nat} (p : Nat → Nat → Bool) (h : b < n) : (ofn n p).getD b 0 = bs (fun a => p a b) n := ofTo_get p h
theorem ofn_lt {n a b : Nat} (p : Nat → Nat → Bool) (ha : a < n) (hb : b < n) : lt (ofn n p) a b = p a b := by
  rw [lt, ofn_get p hb, bs_bit, decide_eq_true ha, Bool.true_and]
theorem ofn_vld (n : Nat) (p : Nat → Nat → Bool) : Vld n (ofn n p) := ⟨ofn_len n p, fun x hx => by
  simp only [ofn, ofTo, List.mem_map] at hx
  obtain ⟨b, _, rfl⟩ := hx
  exact bs_lt _ _⟩
theorem nat_ext {l r : List Nat} (hl : l.length = r.length) (h : ∀ i, i < l.length → l.getD i 0 = r.getD i 0) : l = r := by
  apply List.ext_getElem hl
  intro i h1 h2
  have := h i h1
  simpa [List.getD_eq_getElem?_getD, h1, h2] using this
/-- Two orders of n points that say the same are the same. -/
theorem vld_ext {n : Nat} {l r : List Nat} (hl : Vld n l) (hr : Vld n r) (h : ∀ a b, a < n → b < n → lt l a b = lt r a b) : l = r := by
  refine nat_ext (hl.1.trans hr.1.symm) fun b hb => Nat.eq_of_testBit_eq fun a => ?_
  by_cases ha : a < n
  · exact h a b ha (by have := hl.1; omega)
  · have big : ∀ {x : Nat}, x < 2 ^ n → x.testBit a = false := fun hx => Nat.testBit_lt_two_pow (Nat.lt_of_lt_of_le hx (Nat.pow_le_pow_right (by decide) (by omega)))
    rw [big (hl.get b), big (hr.get b)]
end Go.Proofs.YtbgecpjlopdkfaaDoor
