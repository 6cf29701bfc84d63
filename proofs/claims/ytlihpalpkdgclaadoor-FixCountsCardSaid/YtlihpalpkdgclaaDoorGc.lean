import Derived.Test.YtlihpalpkdgclaaDoorFc
import Derived.Test.YtlihpalpkdgclaaDoorFd
import Derived.Test.YtlihpalpkdgclaaDoorFi
import Derived.Test.YtlihpalpkdgclaaDoorFe
import Derived.Test.YtlihpalpkdgclaaDoorFkb
import Derived.Test.YtlihpalpkdgclaaDoorFp
set_option linter.unusedSimpArgs false
set_option linter.unusedVariables false
set_option linter.unusedSectionVars false
set_option maxRecDepth 20000
namespace Go.Proofs.YtlihpalpkdgclaaDoor
attribute [local irreducible] QOp aL aC qL
/-- The set of the points below k of which p holds. -/
def bs (p : Nat → Bool) : Nat → Nat
  | 0 => 0
  | k + 1 => if p k = true then bs p k + 2 ^ k else bs p k
theorem bs_lt (p : Nat → Bool) : ∀ k, bs p k < 2 ^ k
  | 0 => by rw [bs]; decide
  | k + 1 => by
    have ih := bs_lt p k
    rw [bs, Nat.pow_succ]
    split <;> omega
theorem bs_bit (p : Nat → Bool) (j : Nat) : ∀ k, (bs p k).testBit j = (decide (j < k) && p j)
  | 0 => by rw [bs]; simp
  | k + 1 => by
    have ih := bs_bit p j k
    have hl := bs_lt p k
    rw [bs]
    split
    · rename_i h
      have e : bs p k + 2 ^ k = 2 ^ k ||| bs p k := by
        have := Nat.two_pow_add_eq_or_of_lt hl 1
        rw [Nat.mul_one] at this
        omega
      rw [e, Nat.testBit_or, Nat.testBit_two_pow, ih]
      by_cases hjk : j = k
      · subst hjk; rw [h]; simp
      · simp [Ne.symm hjk, show j < k + 1 ↔ j < k by omega]
    · rename_i h
      rw [ih]
      by_cases hjk : j = k
      · subst hjk; rw [Bool.eq_false_iff.2 h]; simp
      · simp [show j < k + 1 ↔ j < k by omega]
/-- The order of n points by what is below what. -/
def ofTo (n : Nat) (p : Nat → Nat → Bool) (k : Nat) : List Nat := (List.range k).map fun b => bs (fun a => p a b) n
def ofn (n : Nat) (p : Nat → Nat → Bool) : List Nat := ofTo n p n
theorem ofTo_len (n : Nat) (p : Nat → Nat → Bool) (k : Nat) : (ofTo n p k).length = k := by simp [ofTo]
theorem ofn_len (n : Nat) (p : Nat → Nat → Bool) : (ofn n p).length = n := ofTo_len n p n
theorem ofn_vld (n : Nat) (p : Nat → Nat → Bool) : Vld n (ofn n p) := ⟨ofn_len n p, fun x hx => by
  simp only [ofn, ofTo, List.mem_map] at hx
  obtain ⟨b, _, rfl⟩ := hx
  exact bs_lt _ _⟩
theorem nat_ext {l r : List Nat} (hl : l.length = r.length) (h : ∀ i, i < l.length → l.getD i 0 = r.getD i 0) : l = r := by
  apply List.ext_getElem hl
  intro i h1 h2
  have := h i h1
  simpa [List.getD_eq_getElem?_getD, h1, h2] using this
end Go.Proofs.YtlihpalpkdgclaaDoor
set_option linter.unusedSimpArgs false
set_option linter.unusedVariables false
set_option linter.unusedSectionVars false
set_option maxRecDepth 20000
namespace Go.Proofs.YtlihpalpkdgclaaDoor
attribute [local irreducible] QOp aL aC qL
theorem bs_or (p : Nat → Bool) (k : Nat) : bs p k ||| 2 ^ k = bs p k + 2 ^ k := by
  have := Nat.two_pow_add_eq_or_of_lt (bs_lt p k) 1
  rw [Nat.mul_one] at this
  rw [Nat.or_comm, ← this]
  omega
def lowP (n : Nat) (ns : List Nat) (i : Nat) : Bool := (List.range n).all fun k => !lt ns k i
def highP (n : Nat) (ns : List Nat) (i : Nat) : Bool := (List.range n).all fun k => !lt ns i k
def zeroP (ns : List Nat) (i : Nat) : Bool := decide (ns.getD i 0 = 0)
def hiTo (n : Nat) (ns : List Nat) : Nat → Nat
  | 0 => 2 ^ n - 1
  | b + 1 => ndiff (hiTo n ns b) (ns.getD b 0)
theorem any_succ (p : Nat → Bool) (k : Nat) : (List.range (k + 1)).any p = ((List.range k).any p || p k) := by rw [List.range_succ, List.any_append]; simp
/-! Ideals. -/
def idl (n : Nat) (ns : List Nat) (s : Nat) : Bool := (List.range n).all fun b => !s.testBit b || sub (ns.getD b 0) s
def idTo (n : Nat) (ns : List Nat) (k : Nat) : List Nat := (List.range k).filter (idl n ns)
end Go.Proofs.YtlihpalpkdgclaaDoor
