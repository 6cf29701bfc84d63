import Derived.Test.YtjepdcfiogjmgaaJf
import Derived.Test.YtjepdcfiogjmgaaJn
import Derived.Test.YtjepdcfiogjmgaaKl
import Derived.Test.YtjepdcfiogjmgaaGc
import Derived.Test.YtjepdcfiogjmgaaEngZo
set_option linter.unusedSimpArgs false
set_option linter.unusedVariables false
set_option maxRecDepth 20000
namespace Go.Proofs.Ytjepdcfiogjmgaa
attribute [local irreducible] QOp aL aC qL
theorem idl_iff {n : Nat} {ns : List Nat} {s : Nat} : idl n ns s = true ↔ ∀ b, b < n → s.testBit b = true → sub (ns.getD b 0) s = true := by
  unfold idl
  rw [List.all_eq_true]
  constructor
  · intro h b hb hs
    have := h b (List.mem_range.2 hb)
    rwa [hs, Bool.not_true, Bool.false_or] at this
  · intro h b hb
    cases hs : s.testBit b
    · rfl
    · rw [Bool.not_true, Bool.false_or]; exact h b (List.mem_range.1 hb) hs
theorem id_get {n : Nat} {ns : List Nat} {i : Nat} (hi : i < (idTo n ns (2 ^ n)).length) : (idTo n ns (2 ^ n)).getD i 0 < 2 ^ n ∧ idl n ns ((idTo n ns (2 ^ n)).getD i 0) = true := rng_get (idl n ns) (2 ^ n) hi
theorem id_at {n : Nat} {ns : List Nat} {s : Nat} (hs : s < 2 ^ n) (h : idl n ns s = true) : ∃ i, i < (idTo n ns (2 ^ n)).length ∧ (idTo n ns (2 ^ n)).getD i 0 = s := rng_at (p := idl n ns) hs h
theorem idl_or {n : Nat} {ns : List Nat} {a b : Nat} (ha : idl n ns a = true) (hb : idl n ns b = true) : idl n ns (a ||| b) = true := idl_iff.2 fun i hi h => by
  rw [Nat.testBit_or, Bool.or_eq_true] at h
  refine sub_iff.2 fun j hj => ?_
  rw [Nat.testBit_or, Bool.or_eq_true]
  rcases h with h | h
  · exact .inl (sub_iff.1 (idl_iff.1 ha i hi h) j hj)
  · exact .inr (sub_iff.1 (idl_iff.1 hb i hi h) j hj)
def idM (n : Nat) (ns : List Nat) : List (List Nat) := tbT (idTo n ns (2 ^ n)).length (mtN (idTo n ns (2 ^ n))) (idTo n ns (2 ^ n)).length
def idJ (n : Nat) (ns : List Nat) : List (List Nat) := tbT (idTo n ns (2 ^ n)).length (jnN (idTo n ns (2 ^ n)) (· ||| ·)) (idTo n ns (2 ^ n)).length
end Go.Proofs.Ytjepdcfiogjmgaa
