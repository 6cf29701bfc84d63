import Derived.Test.YtdbngpkbamhbeaaGb
import Derived.Test.YtdbngpkbamhbeaaGr
import Derived.Test.YtdbngpkbamhbeaaFkb
import Derived.Test.YtdbngpkbamhbeaaFhb
import Derived.Test.YtdbngpkbamhbeaaEngA
set_option linter.unusedSimpArgs false
set_option linter.unusedVariables false
set_option linter.unusedSectionVars false
set_option maxRecDepth 20000
namespace Go.Proofs.Ytdbngpkbamhbeaa
attribute [local irreducible] QOp aL aC qL
theorem vget {n : Nat} {ns : List Nat} (hv : Vld n ns) (hn : n ≤ 10) (k : Nat) : ns.getD k 0 < 1024 := Nat.lt_of_lt_of_le (hv.get k) (p2_10 hn)
def lowP (n : Nat) (ns : List Nat) (i : Nat) : Bool := (List.range n).all fun k => !lt ns k i
def highP (n : Nat) (ns : List Nat) (i : Nat) : Bool := (List.range n).all fun k => !lt ns i k
def zeroP (ns : List Nat) (i : Nat) : Bool := decide (ns.getD i 0 = 0)
def hiTo (n : Nat) (ns : List Nat) : Nat → Nat
  | 0 => 2 ^ n - 1
  | b + 1 => ndiff (hiTo n ns b) (ns.getD b 0)
theorem any_succ (p : Nat → Bool) (k : Nat) : (List.range (k + 1)).any p = ((List.range k).any p || p k) := by rw [List.range_succ, List.any_append]; simp
/-! Ideals. -/
def idl (n : Nat) (ns : List Nat) (s : Nat) : Bool := (List.range n).all fun b => !s.testBit b || sub (ns.getD b 0) s
def idTo (n : Nat) (ns : List Nat) (k : Nat) : List Nat := (List.range k).filter (idl n ns)
end Go.Proofs.Ytdbngpkbamhbeaa
set_option linter.unusedSimpArgs false
set_option linter.unusedVariables false
set_option linter.unusedSectionVars false
set_option maxRecDepth 20000
namespace Go.Proofs.Ytdbngpkbamhbeaa
attribute [local irreducible] QOp aL aC qL
/-- Is something between two points, below k. -/
def btw (ns : List Nat) (a b k : Nat) : Bool := (List.range k).any fun c => lt ns a c && lt ns c b
def rowTo (f : Nat → Nat → Bool) (a b : Nat) : List (Nat × Nat) := ((List.range b).filter (f a)).map fun b => (a, b)
def prsTo (n : Nat) (f : Nat → Nat → Bool) (a : Nat) : List (Nat × Nat) := (List.range a).flatMap fun a => rowTo f a n
theorem rowTo_succ (f : Nat → Nat → Bool) (a b : Nat) : rowTo f a (b + 1) = if f a b = true then rowTo f a b ++ [(a, b)] else rowTo f a b := by
  unfold rowTo
  rw [List.range_succ, List.filter_append, List.map_append]
  by_cases h : f a b = true <;> simp [List.filter, h]
theorem prsTo_succ (n : Nat) (f : Nat → Nat → Bool) (a : Nat) : prsTo n f (a + 1) = prsTo n f a ++ rowTo f a n := by
  unfold prsTo
  rw [List.range_succ, List.flatMap_append]
  simp
theorem rowTo_len (f : Nat → Nat → Bool) (a b : Nat) : (rowTo f a b).length ≤ b := by
  have := List.length_filter_le (f a) (List.range b)
  rw [List.length_range] at this
  simpa [rowTo] using this
theorem prsTo_len (n : Nat) (f : Nat → Nat → Bool) : ∀ a, (prsTo n f a).length ≤ a * n
  | 0 => by simp [prsTo]
  | a + 1 => by
    have := prsTo_len n f a
    have := rowTo_len f a n
    rw [prsTo_succ, List.length_append, Nat.succ_mul]
    omega
theorem prs_mem {n : Nat} {f : Nat → Nat → Bool} {p : Nat × Nat} : p ∈ prsTo n f n ↔ p.1 < n ∧ p.2 < n ∧ f p.1 p.2 = true := by
  unfold prsTo rowTo
  simp only [List.mem_flatMap, List.mem_range, List.mem_map, List.mem_filter]
  constructor
  · rintro ⟨a, ha, b, ⟨hb, hf⟩, rfl⟩; exact ⟨ha, hb, hf⟩
  · rintro ⟨h1, h2, h3⟩; exact ⟨p.1, h1, p.2, ⟨h2, h3⟩, rfl⟩
/-- The pairs that Pairs tells. -/
def pf (n : Nat) (ns : List Nat) (cv : Bool) (a b : Nat) : Bool := lt ns a b && (!cv || !btw ns a b n)
theorem mul_le10 {a n : Nat} (ha : a ≤ n) (hn : n ≤ 10) : a * n ≤ 100 := Nat.mul_le_mul (Nat.le_trans ha hn) hn
end Go.Proofs.Ytdbngpkbamhbeaa
