import Derived.Test.YtbgecpjlopdkfaaDoorFm
import Derived.Test.YtbgecpjlopdkfaaDoorFc
import Derived.Test.YtbgecpjlopdkfaaDoorFd
set_option linter.unusedSimpArgs false
set_option linter.unusedVariables false
set_option linter.unusedSectionVars false
set_option maxRecDepth 20000
namespace Go.Proofs.YtbgecpjlopdkfaaDoor
attribute [local irreducible] QOp aL aC qL
def badLen (n : Nat) (f : List Int) : Bool := decide ((f.length : Int) ≠ ((2 ^ n : Nat) : Int))
def badW (w : Int) : Bool := decide (w < 0) || decide (w > 1000)
def wchk (N : Int) (ls : List (List Int)) : Int := if N < 0 ∨ 6 < N then 2 else if ls.any (badLen N.toNat) = true then 1 else if ls.any (fun f => f.any badW) = true then 3 else 0

/-! The reference. -/
/-- Is one of the first k bad. -/
def anyTo {α : Type} (p : α → Bool) (l : List α) (k : Nat) : Bool := (l.take k).any p
end Go.Proofs.YtbgecpjlopdkfaaDoor
set_option linter.unusedSimpArgs false
set_option linter.unusedVariables false
set_option linter.unusedSectionVars false
set_option maxRecDepth 20000
namespace Go.Proofs.YtbgecpjlopdkfaaDoor
attribute [local irreducible] QOp aL aC qL
def sub (a b : Nat) : Bool := ndiff a b == 0
theorem sub_iff {a b : Nat} : sub a b = true ↔ ∀ i, a.testBit i = true → b.testBit i = true := by
  unfold sub; rw [beq_iff_eq]; exact ndiff_zero
def risesP (n : Nat) (f : List Int) : Bool := (List.range (2 ^ n)).all fun s => (List.range n).all fun p => !decide (f.getD (s ||| 2 ^ p) 0 < f.getD s 0)
def rising (n : Nat) (f : List Int) : Bool := (List.range (2 ^ n)).all fun a => (List.range (2 ^ n)).all fun b => !(sub a b && decide (f.getD a 0 > f.getD b 0))

/-! Walked. -/
end Go.Proofs.YtbgecpjlopdkfaaDoor
set_option linter.unusedSimpArgs false
set_option linter.unusedVariables false
set_option linter.unusedSectionVars false
set_option maxRecDepth 20000
namespace Go.Proofs.YtbgecpjlopdkfaaDoor
attribute [local irreducible] QOp aL aC qL
theorem truthIs_ac (is want : Bool) (e w : Int) : AC Tryd.prog 21 [.val (.bool is), .val (.int .i64 e), .val (.int .i64 w), .val (.bool want)] [] (.val (.bool (decide (e = w) && (is == (want && decide (w = 0)))))) [] := by
  cases is <;> cases want
  all_goals
    refine AC.mk (n := 21) (fn := Tryd.f21) Tryd.func21 (by kernel_rfl) rfl rfl rfl rfl (fun cx => ?_); dsimp only [argv, Nat.reduceAdd]
    (repeat' (first | refine a_seq ?_ | refine a_ret ?_ | refine a_region ?_ | refine l_nil ?_ | (apply w_q; (focus (first | exact Q_move (by conv => lhs; whnf) | exact Q_assign (by conv => lhs; whnf) | exact Q_eql rfl rfl | exact Q_eqlB rfl rfl KBo.h | exact Q_pick_t rfl (by assumption) (by conv => lhs; whnf) | exact Q_pick_f rfl (by assumption) (by conv => lhs; whnf) | exact Q_pick_t rfl rfl (by conv => lhs; whnf) | exact Q_pick_f rfl rfl (by conv => lhs; whnf))); (focus exact rfl)) | refine w_guard_u rfl rfl rfl ?_ | refine w_guard_y rfl rfl rfl (by first | assumption | rfl) ?_ | refine w_guard_n rfl rfl rfl (by first | assumption | rfl) ?_ | (refine w_guard rfl rfl rfl ?_ ?_ <;> (intro h; (try (have hp := of_decide_eq_true h)); (try (have hp := of_decide_eq_false h)); (try contradiction); (try (exfalso; omega)))))); (try all_goals (try show retA _ _ _ _ _ _ _))
    all_goals
      refine ⟨[_], [], ⟨resV_tmp (by conv => lhs; whnf), trivial⟩, VwOs.mk (by decide) trivial, ?_, rfl⟩
      exact Vw.bool' (by simp_all)
end Go.Proofs.YtbgecpjlopdkfaaDoor
set_option linter.unusedSimpArgs false
set_option linter.unusedVariables false
set_option linter.unusedSectionVars false
set_option maxRecDepth 20000
namespace Go.Proofs.YtbgecpjlopdkfaaDoor
attribute [local irreducible] QOp aL aC qL
/-- A list of weights of the sets of n points. -/
def Wts (n : Nat) (f : List Int) : Prop := f.length = 2 ^ n ∧ ∀ w ∈ f, 0 ≤ w ∧ w ≤ 1000
theorem Wts.get {n : Nat} {f : List Int} (h : Wts n f) (s : Nat) : 0 ≤ f.getD s 0 ∧ f.getD s 0 ≤ 1000 := by
  rw [List.getD_eq_getElem?_getD]
  cases hk : f[s]? with
  | none => simp
  | some x => exact h.2 x (List.mem_of_getElem? hk)
def four (n : Nat) (a b c d : List Int) : Bool := (List.range (2 ^ n)).all fun s => (List.range (2 ^ n)).all fun t => !decide (a.getD s 0 * b.getD t 0 > c.getD (s ||| t) 0 * d.getD (s &&& t) 0)
end Go.Proofs.YtbgecpjlopdkfaaDoor
set_option linter.unusedSimpArgs false
set_option linter.unusedVariables false
set_option linter.unusedSectionVars false
set_option maxRecDepth 20000
namespace Go.Proofs.YtbgecpjlopdkfaaDoor
attribute [local irreducible] QOp aL aC qL
/-- The set of the points below k of which p holds. -/
def bs (p : Nat → Bool) : Nat → Nat
  | 0 => 0
  | k + 1 => if p k = true then bs p k + 2 ^ k else bs p k
theorem bs_lt (p : Nat → Bool) : ∀ k, bs p k < 2 ^ k
  | 0 => by rw [bs]; decide
  | k + 1 => by
    have ih := bs_lt p k
    rw [bs, Nat.pow_succ]
    split <;> omega
theorem bs_bit (p : Nat → Bool) (j : Nat) : ∀ k, (bs p k).testBit j = (decide (j < k) && p j)
  | 0 => by rw [bs]; simp
  | k + 1 => by
    have ih := bs_bit p j k
    have hl := bs_lt p k
    rw [bs]
    split
    · rename_i h
      have e : bs p k + 2 ^ k = 2 ^ k ||| bs p k := by
        have := Nat.two_pow_add_eq_or_of_lt hl 1
        rw [Nat.mul_one] at this
        omega
      rw [e, Nat.testBit_or, Nat.testBit_two_pow, ih]
      by_cases hjk : j = k
      · subst hjk; rw [h]; simp
      · simp [Ne.symm hjk, show j < k + 1 ↔ j < k by omega]
    · rename_i h
      rw [ih]
      by_cases hjk : j = k
      · subst hjk; rw [Bool.eq_false_iff.2 h]; simp
      · simp [show j < k + 1 ↔ j < k by omega]
theorem bs_eq {p : Nat → Bool} {x k : Nat} (hx : x < 2 ^ k) (h : ∀ j, j < k → x.testBit j = p j) : x = bs p k := by
  apply Nat.eq_of_testBit_eq
  intro j
  rw [bs_bit]
  by_cases hj : j < k
  · rw [h j hj]; simp [hj]
  · rw [Nat.testBit_lt_two_pow (Nat.lt_of_lt_of_le hx (Nat.pow_le_pow_right (by decide) (by omega)))]
    simp [hj]
/-- The order of n points by what is below what. -/
def ofTo (n : Nat) (p : Nat → Nat → Bool) (k : Nat) : List Nat := (List.range k).map fun b => bs (fun a => p a b) n
def ofn (n : Nat) (p : Nat → Nat → Bool) : List Nat := ofTo n p n
theorem ofTo_len (n : Nat) (p : Nat → Nat → Bool) (k : Nat) : (ofTo n p k).length = k := by simp [ofTo]
theorem ofTo_get {n k b : Nat} (p : Nat → Nat → Bool) (h : b < k) : (ofTo n p k).getD b 0 = bs (fun a => p a b) n := by
  simp [ofTo, List.getD_eq_getElem?_getD, h]
theorem ofn_len (n : Nat) (p : Nat → Nat → Bool) : (ofn n p).length = n := ofTo_len n p n
theorem ofn_get {n b : Nat} (p : Nat → Nat → Bool) (h : b < n) : (ofn n p).getD b 0 = bs (fun a => p a b) n := ofTo_get p h
theorem ofn_lt {n a b : Nat} (p : Nat → Nat → Bool) (ha : a < n) (hb : b < n) : lt (ofn n p) a b = p a b := by
  rw [lt, ofn_get p hb, bs_bit, decide_eq_true ha, Bool.true_and]
theorem ofn_vld (n : Nat) (p : Nat → Nat → Bool) : Vld n (ofn n p) := ⟨ofn_len n p, fun x hx => by
  simp only [ofn, ofTo, List.mem_map] at hx
  obtain ⟨b, _, rfl⟩ := hx
  exact bs_lt _ _⟩
theorem nat_ext {l r : List Nat} (hl : l.length = r.length) (h : ∀ i, i < l.length → l.getD i 0 = r.getD i 0) : l = r := by
  apply List.ext_getElem hl
  intro i h1 h2
  have := h i h1
  simpa [List.getD_eq_getElem?_getD, h1, h2] using this
/-- Two orders of n points that say the same are the same. -/
theorem vld_ext {n : Nat} {l r : List Nat} (hl : Vld n l) (hr : Vld n r) (h : ∀ a b, a < n → b < n → lt l a b = lt r a b) : l = r := by
  refine nat_ext (hl.1.trans hr.1.symm) fun b hb => Nat.eq_of_testBit_eq fun a => ?_
  by_cases ha : a < n
  · exact h a b ha (by have := hl.1; omega)
  · have big : ∀ {x : Nat}, x < 2 ^ n → x.testBit a = false := fun hx => Nat.testBit_lt_two_pow (Nat.lt_of_lt_of_le hx (Nat.pow_le_pow_right (by decide) (by omega)))
    rw [big (hl.get b), big (hr.get b)]
theorem ofn_congr {n : Nat} {p q : Nat → Nat → Bool} (h : ∀ a b, a < n → b < n → p a b = q a b) : ofn n p = ofn n q := vld_ext (ofn_vld n p) (ofn_vld n q) fun a b ha hb => by rw [ofn_lt p ha hb, ofn_lt q ha hb, h a b ha hb]
end Go.Proofs.YtbgecpjlopdkfaaDoor
