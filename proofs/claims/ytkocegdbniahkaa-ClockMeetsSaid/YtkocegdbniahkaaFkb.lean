import Derived.Test.YtkocegdbniahkaaFhb
import Derived.Test.YtkocegdbniahkaaFi
set_option linter.unusedSimpArgs false
set_option linter.unusedVariables false
set_option linter.unusedSectionVars false
set_option maxRecDepth 20000
namespace Go.Proofs.Ytkocegdbniahkaa
attribute [local irreducible] QOp aL aC qL
theorem p2_10 {n : Nat} (h : n ≤ 10) : 2 ^ n ≤ 1024 := Nat.pow_le_pow_right (by decide) h
abbrev ordv (N : Int) (l : List Int) : AV := .agg [.val (.int .i64 N), ints l]
theorem chk_ok {n : Nat} {ns : List Nat} (hn : n ≤ 10) (hv : Vld n ns) (hok : okB n ns = true) : chk n (nl ns) = 0 := by rw [chk_nl hn hv.1 hv.2, if_pos hok]
def uptoB (ns : List Nat) (a b : Nat) : Bool := decide (a = b) || lt ns a b
end Go.Proofs.Ytkocegdbniahkaa
