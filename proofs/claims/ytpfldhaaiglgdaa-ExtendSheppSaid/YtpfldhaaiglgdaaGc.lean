import Derived.Test.YtpfldhaaiglgdaaGa
import Derived.Test.YtpfldhaaiglgdaaFg
import Derived.Test.YtpfldhaaiglgdaaFe
import Derived.Test.YtpfldhaaiglgdaaFkb
import Derived.Test.YtpfldhaaiglgdaaFo
import Derived.Test.YtpfldhaaiglgdaaFi
set_option linter.unusedSimpArgs false
set_option linter.unusedVariables false
set_option linter.unusedSectionVars false
set_option maxRecDepth 20000
namespace Go.Proofs.Ytpfldhaaiglgdaa
attribute [local irreducible] QOp aL aC qL
theorem vget {n : Nat} {ns : List Nat} (hv : Vld n ns) (hn : n ≤ 10) (k : Nat) : ns.getD k 0 < 1024 := Nat.lt_of_lt_of_le (hv.get k) (p2_10 hn)
def lowP (n : Nat) (ns : List Nat) (i : Nat) : Bool := (List.range n).all fun k => !lt ns k i
def highP (n : Nat) (ns : List Nat) (i : Nat) : Bool := (List.range n).all fun k => !lt ns i k
def zeroP (ns : List Nat) (i : Nat) : Bool := decide (ns.getD i 0 = 0)
def hiTo (n : Nat) (ns : List Nat) : Nat → Nat
  | 0 => 2 ^ n - 1
  | b + 1 => ndiff (hiTo n ns b) (ns.getD b 0)
theorem any_succ (p : Nat → Bool) (k : Nat) : (List.range (k + 1)).any p = ((List.range k).any p || p k) := by rw [List.range_succ, List.any_append]; simp
/-! Ideals. -/
def idl (n : Nat) (ns : List Nat) (s : Nat) : Bool := (List.range n).all fun b => !s.testBit b || sub (ns.getD b 0) s
def idTo (n : Nat) (ns : List Nat) (k : Nat) : List Nat := (List.range k).filter (idl n ns)
end Go.Proofs.Ytpfldhaaiglgdaa
