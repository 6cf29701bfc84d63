import Derived.Test.YtlihpalpkdgclaaDoorFm
import Derived.Test.YtlihpalpkdgclaaDoorFc
import Derived.Test.YtlihpalpkdgclaaDoorFd
import Derived.Test.YtlihpalpkdgclaaDoorFi
import Derived.Test.YtlihpalpkdgclaaDoorFe
import Derived.Test.YtlihpalpkdgclaaDoorFkb
set_option linter.unusedSimpArgs false
set_option linter.unusedVariables false
set_option linter.unusedSectionVars false
set_option maxRecDepth 20000
namespace Go.Proofs.YtlihpalpkdgclaaDoor
attribute [local irreducible] QOp aL aC qL
def badLen (n : Nat) (f : List Int) : Bool := decide ((f.length : Int) ≠ ((2 ^ n : Nat) : Int))
def badW (w : Int) : Bool := decide (w < 0) || decide (w > 1000)
def wchk (N : Int) (ls : List (List Int)) : Int := if N < 0 ∨ 6 < N then 2 else if ls.any (badLen N.toNat) = true then 1 else if ls.any (fun f => f.any badW) = true then 3 else 0

/-! The reference. -/
/-- Is one of the first k bad. -/
def anyTo {α : Type} (p : α → Bool) (l : List α) (k : Nat) : Bool := (l.take k).any p
end Go.Proofs.YtlihpalpkdgclaaDoor
set_option linter.unusedSimpArgs false
set_option linter.unusedVariables false
set_option linter.unusedSectionVars false
set_option maxRecDepth 20000
namespace Go.Proofs.YtlihpalpkdgclaaDoor
attribute [local irreducible] QOp aL aC qL
def sub (a b : Nat) : Bool := ndiff a b == 0
def risesP (n : Nat) (f : List Int) : Bool := (List.range (2 ^ n)).all fun s => (List.range n).all fun p => !decide (f.getD (s ||| 2 ^ p) 0 < f.getD s 0)
def rising (n : Nat) (f : List Int) : Bool := (List.range (2 ^ n)).all fun a => (List.range (2 ^ n)).all fun b => !(sub a b && decide (f.getD a 0 > f.getD b 0))

/-! Walked. -/
end Go.Proofs.YtlihpalpkdgclaaDoor
set_option linter.unusedSimpArgs false
set_option linter.unusedVariables false
set_option linter.unusedSectionVars false
set_option maxRecDepth 20000
namespace Go.Proofs.YtlihpalpkdgclaaDoor
attribute [local irreducible] QOp aL aC qL
theorem truthIs_ac (is want : Bool) (e w : Int) : AC Tryd.prog 27 [.val (.bool is), .val (.int .i64 e), .val (.int .i64 w), .val (.bool want)] [] (.val (.bool (decide (e = w) && (is == (want && decide (w = 0)))))) [] := by
  cases is <;> cases want
  all_goals
    refine AC.mk (n := 21) (fn := Tryd.f27) Tryd.func27 (by kernel_rfl) rfl rfl rfl rfl (fun cx => ?_); dsimp only [argv, Nat.reduceAdd]
    (repeat' (first | refine a_seq ?_ | refine a_block ?_ | refine a_skip ?_ | refine a_ret ?_ | refine a_exit ?_ | refine a_region ?_ | refine l_nil ?_ | (apply w_q; (focus (first | exact Q_move (by conv => lhs; whnf) | exact Q_assign (by conv => lhs; whnf) | exact Q_eql rfl rfl | exact Q_eqlB rfl rfl KBo.h | exact Q_eqlP rfl rfl inferInstance | exact Q_pick_t rfl (by assumption) (by conv => lhs; whnf) | exact Q_pick_f rfl (by assumption) (by conv => lhs; whnf) | exact Q_pick_t rfl rfl (by conv => lhs; whnf) | exact Q_pick_f rfl rfl (by conv => lhs; whnf))); (focus exact rfl)) | refine w_guard_u rfl rfl rfl ?_ | refine w_guard_y rfl rfl rfl (by first | assumption | rfl) ?_ | refine w_guard_n rfl rfl rfl (by first | assumption | rfl) ?_ | (refine w_guard rfl rfl rfl ?_ ?_ <;> (intro h; (try (have hp := of_decide_eq_true h)); (try (have hp := of_decide_eq_false h)); (try contradiction); (try (exfalso; omega)))))); (try all_goals (try show retA _ _ _ _ _ _ _))
    all_goals
      refine ⟨[_], [], ⟨resV_tmp (by conv => lhs; whnf), trivial⟩, VwOs.mk (by decide) trivial, ?_, rfl⟩
      exact Vw.bool' (by simp_all)
theorem numberIs_ac (n e w want : Int) : AC Tryd.prog 36 [.val (.int .i64 n), .val (.int .i64 e), .val (.int .i64 w), .val (.int .i64 want)] [] (.val (.bool (decide (e = w) && decide (n = if w = 0 then want else 0)))) [] := by
  refine AC.mk (n := 19) (fn := Tryd.f36) Tryd.func36 (by kernel_rfl) rfl rfl rfl rfl (fun cx => ?_); dsimp only [argv, Nat.reduceAdd]
  (repeat' (first | refine a_seq ?_ | refine a_block ?_ | refine a_skip ?_ | refine a_ret ?_ | refine a_exit ?_ | refine a_region ?_ | refine l_nil ?_ | (apply w_q; (focus (first | exact Q_move (by conv => lhs; whnf) | exact Q_assign (by conv => lhs; whnf) | exact Q_eql rfl rfl | exact Q_eqlB rfl rfl KBo.h | exact Q_neq rfl rfl | exact Q_neqB rfl rfl KBo.h | exact Q_eqlP rfl rfl inferInstance | exact Q_neqP rfl rfl inferInstance | exact Q_pick_t rfl (by assumption) (by conv => lhs; whnf) | exact Q_pick_f rfl (by assumption) (by conv => lhs; whnf) | exact Q_pick_t rfl rfl (by conv => lhs; whnf) | exact Q_pick_f rfl rfl (by conv => lhs; whnf))); (focus exact rfl)) | (refine a_cond rfl ?_ ?_ <;> (intro h; (try (have hp := of_decide_eq_true h)); (try (have hp := of_decide_eq_false h)); (try contradiction); (try (exfalso; omega)))) | refine w_guard_u rfl rfl rfl ?_ | refine w_guard_y rfl rfl rfl (by first | assumption | rfl) ?_ | refine w_guard_n rfl rfl rfl (by first | assumption | rfl) ?_ | (refine w_guard rfl rfl rfl ?_ ?_ <;> (intro h; (try (have hp := of_decide_eq_true h)); (try (have hp := of_decide_eq_false h)); (try contradiction); (try (exfalso; omega)))))); (try all_goals (try show retA _ _ _ _ _ _ _))
  all_goals
    refine ⟨[_], [], ⟨resV_tmp (by conv => lhs; whnf), trivial⟩, VwOs.mk (by decide) trivial, ?_, rfl⟩
    exact Vw.bool' (by simp_all)
end Go.Proofs.YtlihpalpkdgclaaDoor
set_option linter.unusedSimpArgs false
set_option linter.unusedVariables false
set_option linter.unusedSectionVars false
set_option maxRecDepth 20000
namespace Go.Proofs.YtlihpalpkdgclaaDoor
attribute [local irreducible] QOp aL aC qL
/-- The set of the points below k of which p holds. -/
def bs (p : Nat → Bool) : Nat → Nat
  | 0 => 0
  | k + 1 => if p k = true then bs p k + 2 ^ k else bs p k
theorem bs_lt (p : Nat → Bool) : ∀ k, bs p k < 2 ^ k
  | 0 => by rw [bs]; decide
  | k + 1 => by
    have ih := bs_lt p k
    rw [bs, Nat.pow_succ]
    split <;> omega
theorem bs_bit (p : Nat → Bool) (j : Nat) : ∀ k, (bs p k).testBit j = (decide (j < k) && p j)
  | 0 => by rw [bs]; simp
  | k + 1 => by
    have ih := bs_bit p j k
    have hl := bs_lt p k
    rw [bs]
    split
    · rename_i h
      have e : bs p k + 2 ^ k = 2 ^ k ||| bs p k := by
        have := Nat.two_pow_add_eq_or_of_lt hl 1
        rw [Nat.mul_one] at this
        omega
      rw [e, Nat.testBit_or, Nat.testBit_two_pow, ih]
      by_cases hjk : j = k
      · subst hjk; rw [h]; simp
      · simp [Ne.symm hjk, show j < k + 1 ↔ j < k by omega]
    · rename_i h
      rw [ih]
      by_cases hjk : j = k
      · subst hjk; rw [Bool.eq_false_iff.2 h]; simp
      · simp [show j < k + 1 ↔ j < k by omega]
/-- The order of n points by what is below what. -/
def ofTo (n : Nat) (p : Nat → Nat → Bool) (k : Nat) : List Nat := (List.range k).map fun b => bs (fun a => p a b) n
def ofn (n : Nat) (p : Nat → Nat → Bool) : List Nat := ofTo n p n
theorem ofTo_len (n : Nat) (p : Nat → Nat → Bool) (k : Nat) : (ofTo n p k).length = k := by simp [ofTo]
theorem ofTo_get {n k b : Nat} (p : Nat → Nat → Bool) (h : b < k) : (ofTo n p k).getD b 0 = bs (fun a => p a b) n := by
  simp [ofTo, List.getD_eq_getElem?_getD, h]
theorem ofn_len (n : Nat) (p : Nat → Nat → Bool) : (ofn n p).length = n := ofTo_len n p n
theorem ofn_get {n b : Nat} (p : Nat → Nat → Bool) (h : b < n) : (ofn n p).getD b 0 = bs (fun a => p a b) n := ofTo_get p h
theorem ofn_lt {n a b : Nat} (p : Nat → Nat → Bool) (ha : a < n) (hb : b < n) : lt (ofn n p) a b = p a b := by
  rw [lt, ofn_get p hb, bs_bit, decide_eq_true ha, Bool.true_and]
theorem ofn_vld (n : Nat) (p : Nat → Nat → Bool) : Vld n (ofn n p) := ⟨ofn_len n p, fun x hx => by
  simp only [ofn, ofTo, List.mem_map] at hx
  obtain ⟨b, _, rfl⟩ := hx
  exact bs_lt _ _⟩
theorem nat_ext {l r : List Nat} (hl : l.length = r.length) (h : ∀ i, i < l.length → l.getD i 0 = r.getD i 0) : l = r := by
  apply List.ext_getElem hl
  intro i h1 h2
  have := h i h1
  simpa [List.getD_eq_getElem?_getD, h1, h2] using this
end Go.Proofs.YtlihpalpkdgclaaDoor
set_option linter.unusedSimpArgs false
set_option linter.unusedVariables false
set_option linter.unusedSectionVars false
set_option maxRecDepth 20000
namespace Go.Proofs.YtlihpalpkdgclaaDoor
attribute [local irreducible] QOp aL aC qL
theorem bs_or (p : Nat → Bool) (k : Nat) : bs p k ||| 2 ^ k = bs p k + 2 ^ k := by
  have := Nat.two_pow_add_eq_or_of_lt (bs_lt p k) 1
  rw [Nat.mul_one] at this
  rw [Nat.or_comm, ← this]
  omega
def lowP (n : Nat) (ns : List Nat) (i : Nat) : Bool := (List.range n).all fun k => !lt ns k i
def highP (n : Nat) (ns : List Nat) (i : Nat) : Bool := (List.range n).all fun k => !lt ns i k
def zeroP (ns : List Nat) (i : Nat) : Bool := decide (ns.getD i 0 = 0)
def hiTo (n : Nat) (ns : List Nat) : Nat → Nat
  | 0 => 2 ^ n - 1
  | b + 1 => ndiff (hiTo n ns b) (ns.getD b 0)
theorem any_succ (p : Nat → Bool) (k : Nat) : (List.range (k + 1)).any p = ((List.range k).any p || p k) := by rw [List.range_succ, List.any_append]; simp
/-! Ideals. -/
def idl (n : Nat) (ns : List Nat) (s : Nat) : Bool := (List.range n).all fun b => !s.testBit b || sub (ns.getD b 0) s
def idTo (n : Nat) (ns : List Nat) (k : Nat) : List Nat := (List.range k).filter (idl n ns)
end Go.Proofs.YtlihpalpkdgclaaDoor
