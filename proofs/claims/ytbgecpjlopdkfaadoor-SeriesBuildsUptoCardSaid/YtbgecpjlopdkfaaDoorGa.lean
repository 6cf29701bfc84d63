import Derived.Test.YtbgecpjlopdkfaaDoorSra
import Derived.Test.YtbgecpjlopdkfaaDoorEngT
import Derived.Test.YtbgecpjlopdkfaaDoorFc
import Derived.Test.YtbgecpjlopdkfaaDoorFe
set_option linter.unusedSimpArgs false
set_option linter.unusedVariables false
set_option linter.unusedSectionVars false
set_option maxRecDepth 20000
namespace Go.Proofs.YtbgecpjlopdkfaaDoor
attribute [local irreducible] QOp aL aC qL
def idx {α : Type} (p : α → Bool) (l : List α) : Int := match l.findIdx? p with
  | some i => i
  | none => -1
theorem idx_some {α : Type} {p : α → Bool} {l : List α} {k : Nat} (hk : k < l.length) (h0 : ∀ i (h : i < l.length), i < k → p l[i] = false) (h1 : p l[k] = true) : idx p l = k := by
  unfold idx
  rw [(List.findIdx?_eq_some_iff_getElem (p := p) (i := k) (xs := l)).2 ⟨hk, h1, fun j hj => by rw [h0 j (by omega) hj]; decide⟩]
theorem idx_none {α : Type} {p : α → Bool} {l : List α} (h0 : ∀ i (h : i < l.length), p l[i] = false) : idx p l = -1 := by
  unfold idx
  rw [List.findIdx?_eq_none_iff.2 (fun x hx => by
    obtain ⟨i, hi, rfl⟩ := List.getElem_of_mem hx
    exact h0 i hi)]
theorem idx_any {α : Type} (p : α → Bool) (l : List α) : decide (idx p l ≥ 0) = l.any p := by
  unfold idx
  cases h : l.findIdx? p with
  | none =>
    have := List.findIdx?_eq_none_iff.1 h
    rw [List.any_eq_false.2 (fun x hx => by rw [this x hx]; decide)]
    rfl
  | some i =>
    obtain ⟨h1, h2, _⟩ := List.findIdx?_eq_some_iff_getElem.1 h
    rw [List.any_eq_true.2 ⟨_, List.getElem_mem h1, h2⟩]
    exact decide_eq_true (by show ((i : Nat) : Int) ≥ 0; omega)
theorem getD_of {α : Type} {l : List α} {k : Nat} (h : k < l.length) (z : α) : l.getD k z = l[k] := by rw [List.getD_eq_getElem?_getD, List.getElem?_eq_getElem h]; rfl

end Go.Proofs.YtbgecpjlopdkfaaDoor
set_option linter.unusedSimpArgs false
set_option linter.unusedVariables false
set_option linter.unusedSectionVars false
set_option maxRecDepth 20000
namespace Go.Proofs.YtbgecpjlopdkfaaDoor
attribute [local irreducible] QOp aL aC qL
def badLen (n : Nat) (f : List Int) : Bool := decide ((f.length : Int) ≠ ((2 ^ n : Nat) : Int))
def badW (w : Int) : Bool := decide (w < 0) || decide (w > 1000)
def wchk (N : Int) (ls : List (List Int)) : Int := if N < 0 ∨ 6 < N then 2 else if ls.any (badLen N.toNat) = true then 1 else if ls.any (fun f => f.any badW) = true then 3 else 0

/-! The reference. -/
/-- Is one of the first k bad. -/
def anyTo {α : Type} (p : α → Bool) (l : List α) (k : Nat) : Bool := (l.take k).any p
end Go.Proofs.YtbgecpjlopdkfaaDoor
set_option linter.unusedSimpArgs false
set_option linter.unusedVariables false
set_option linter.unusedSectionVars false
set_option maxRecDepth 20000
namespace Go.Proofs.YtbgecpjlopdkfaaDoor
attribute [local irreducible] QOp aL aC qL
def sub (a b : Nat) : Bool := ndiff a b == 0
def risesP (n : Nat) (f : List Int) : Bool := (List.range (2 ^ n)).all fun s => (List.range n).all fun p => !decide (f.getD (s ||| 2 ^ p) 0 < f.getD s 0)
def rising (n : Nat) (f : List Int) : Bool := (List.range (2 ^ n)).all fun a => (List.range (2 ^ n)).all fun b => !(sub a b && decide (f.getD a 0 > f.getD b 0))

/-! Walked. -/
end Go.Proofs.YtbgecpjlopdkfaaDoor
set_option linter.unusedSimpArgs false
set_option linter.unusedVariables false
set_option linter.unusedSectionVars false
set_option maxRecDepth 20000
namespace Go.Proofs.YtbgecpjlopdkfaaDoor
attribute [local irreducible] QOp aL aC qL
/-- The set of the points below k of which p holds. -/
def bs (p : Nat → Bool) : Nat → Nat
  | 0 => 0
  | k + 1 => if p k = true then bs p k + 2 ^ k else bs p k
theorem bs_lt (p : Nat → Bool) : ∀ k, bs p k < 2 ^ k
  | 0 => by rw [bs]; decide
  | k + 1 => by
    have ih := bs_lt p k
    rw [bs, Nat.pow_succ]
    split <;> omega
theorem bs_bit (p : Nat → Bool) (j : Nat) : ∀ k, (bs p k).testBit j = (decide (j < k) && p j)
  | 0 => by rw [bs]; simp
  | k + 1 => by
    have ih := bs_bit p j k
    have hl := bs_lt p k
    rw [bs]
    split
    · rename_i h
      have e : bs p k + 2 ^ k = 2 ^ k ||| bs p k := by
        have := Nat.two_pow_add_eq_or_of_lt hl 1
        rw [Nat.mul_one] at this
        omega
      rw [e, Nat.testBit_or, Nat.testBit_two_pow, ih]
      by_cases hjk : j = k
      · subst hjk; rw [h]; simp
      · simp [Ne.symm hjk, show j < k + 1 ↔ j < k by omega]
    · rename_i h
      rw [ih]
      by_cases hjk : j = k
      · subst hjk; rw [Bool.eq_false_iff.2 h]; simp
      · simp [show j < k + 1 ↔ j < k by omega]
/-- The order of n points by what is below what. -/
def ofTo (n : Nat) (p : Nat → Nat → Bool) (k : Nat) : List Nat := (List.range k).map fun b => bs (fun a => p a b) n
def ofn (n : Nat) (p : Nat → Nat → Bool) : List Nat := ofTo n p n
theorem ofTo_len (n : Nat) (p : Nat → Nat → Bool) (k : Nat) : (ofTo n p k).length = k := by simp [ofTo]
theorem ofTo_get {n k b : Nat} (p : Nat → Nat → Bool) (h : b < k) : (ofTo n p k).getD b 0 = bs (fun a => p a b) n := by
  simp [ofTo, List.getD_eq_getElem?_getD, h]
theorem ofTo_succ (n : Nat) (p : Nat → Nat → Bool) (k : Nat) : ofTo n p (k + 1) = ofTo n p k ++ [bs (fun a => p a k) n] := by
  simp [ofTo, List.range_succ]
theorem ofn_len (n : Nat) (p : Nat → Nat → Bool) : (ofn n p).length = n := ofTo_len n p n
theorem ofn_get {n b : Nat} (p : Nat → Nat → Bool) (h : b < n) : (ofn n p).getD b 0 = bs (fun a => p a b) n := ofTo_get p h
theorem ofn_lt {n a b : Nat} (p : Nat → Nat → Bool) (ha : a < n) (hb : b < n) : lt (ofn n p) a b = p a b := by
  rw [lt, ofn_get p hb, bs_bit, decide_eq_true ha, Bool.true_and]
theorem ofn_vld (n : Nat) (p : Nat → Nat → Bool) : Vld n (ofn n p) := ⟨ofn_len n p, fun x hx => by
  simp only [ofn, ofTo, List.mem_map] at hx
  obtain ⟨b, _, rfl⟩ := hx
  exact bs_lt _ _⟩
theorem nat_ext {l r : List Nat} (hl : l.length = r.length) (h : ∀ i, i < l.length → l.getD i 0 = r.getD i 0) : l = r := by
  apply List.ext_getElem hl
  intro i h1 h2
  have := h i h1
  simpa [List.getD_eq_getElem?_getD, h1, h2] using this
/-- Two orders of n points that say the same are the same. -/
theorem vld_ext {n : Nat} {l r : List Nat} (hl : Vld n l) (hr : Vld n r) (h : ∀ a b, a < n → b < n → lt l a b = lt r a b) : l = r := by
  refine nat_ext (hl.1.trans hr.1.symm) fun b hb => Nat.eq_of_testBit_eq fun a => ?_
  by_cases ha : a < n
  · exact h a b ha (by have := hl.1; omega)
  · have big : ∀ {x : Nat}, x < 2 ^ n → x.testBit a = false := fun hx => Nat.testBit_lt_two_pow (Nat.lt_of_lt_of_le hx (Nat.pow_le_pow_right (by decide) (by omega)))
    rw [big (hl.get b), big (hr.get b)]
end Go.Proofs.YtbgecpjlopdkfaaDoor
