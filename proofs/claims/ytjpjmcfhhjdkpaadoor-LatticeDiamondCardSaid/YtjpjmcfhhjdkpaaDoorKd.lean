/- Upper and lower sets, cuts: both words. -/
import Derived.Test.YtjpjmcfhhjdkpaaDoorKa
import Derived.Test.YtjpjmcfhhjdkpaaDoorGa
import Derived.Test.YtjpjmcfhhjdkpaaDoorFo
import Derived.Test.YtjpjmcfhhjdkpaaDoorFkb
import Derived.Test.YtjpjmcfhhjdkpaaDoorFp
set_option linter.unusedSimpArgs false
set_option linter.unusedVariables false
set_option maxRecDepth 20000
namespace Go.Proofs.YtjpjmcfhhjdkpaaDoor
attribute [local irreducible] QOp aL aC qL
theorem vgetK {n : Nat} {ns : List Nat} (hv : Vld n ns) (hn : n ≤ 10) (k : Nat) : ns.getD k 0 < 1024 := Nat.lt_of_lt_of_le (hv.get k) (p2_10 hn)
def upB (ns : List Nat) (a b : Nat) : Bool := decide (a = b) || lt ns a b
/-- Is i above all of a set, or one of it; below all of it. -/
def bndP (n : Nat) (ns : List Nat) (set : Nat) (up : Bool) (i : Nat) : Bool := (List.range n).all fun k => !set.testBit k || (if up = true then upB ns k i else upB ns i k)
theorem rall_succ (p : Nat → Bool) (k : Nat) : (List.range (k + 1)).all p = ((List.range k).all p && p k) := by rw [List.range_succ, List.all_append]; simp
theorem or_bit (x p k : Nat) : (x ||| 2 ^ p).testBit k = (decide (k = p) || x.testBit k) := by
  rw [Nat.testBit_or, Nat.testBit_two_pow, Bool.or_comm]
  congr 1
  exact decide_eq_decide.2 eq_comm
theorem up_eq {n : Nat} {ns : List Nat} {set p : Nat} (hs : set < 2 ^ n) : sub set (ns.getD p 0 ||| 2 ^ p) = bndP n ns set true p := by
  rw [Bool.eq_iff_iff, sub_iff]
  unfold bndP
  rw [List.all_eq_true]
  simp only [if_true, upB, List.mem_range, or_bit]
  constructor
  · intro h k _
    cases hk : set.testBit k
    · rfl
    · rw [Bool.not_true, Bool.false_or]; exact h k hk
  · intro h k hk
    have hkn : k < n := by
      rcases Nat.lt_or_ge k n with h1 | h1
      · exact h1
      · rw [Nat.testBit_lt_two_pow (Nat.lt_of_lt_of_le hs (Nat.pow_le_pow_right (n := 2) (by decide) h1))] at hk; cases hk
    have := h k hkn
    rwa [hk, Bool.not_true, Bool.false_or] at this
/-- Below all of the first k of a list. -/
def lwT (n : Nat) (ns L : List Nat) : Nat → Nat
  | 0 => 2 ^ n - 1
  | k + 1 => lwT n ns L k &&& (ns.getD (L.getD k 0) 0 ||| 2 ^ L.getD k 0)
theorem lwT_lt (n : Nat) (ns L : List Nat) : ∀ k, lwT n ns L k < 2 ^ n
  | 0 => by have : 0 < 2 ^ n := Nat.pow_pos (by decide); rw [lwT]; omega
  | k + 1 => by rw [lwT]; exact Nat.lt_of_le_of_lt Nat.and_le_left (lwT_lt n ns L k)
theorem lwT_bit (n : Nat) (ns L : List Nat) (j : Nat) : ∀ k, (lwT n ns L k).testBit j = (decide (j < n) && (List.range k).all fun i => upB ns j (L.getD i 0))
  | 0 => by rw [lwT, Nat.testBit_two_pow_sub_one]; simp
  | k + 1 => by
    rw [lwT, Nat.testBit_and, lwT_bit n ns L j k, rall_succ, or_bit, Bool.and_assoc]
    rfl
theorem low_eq {n : Nat} {ns : List Nat} {set : Nat} (hs : set < 2 ^ n) (hn : n ≤ 10) : lwT n ns (mbs set) (mbs set).length = bs (bndP n ns set false) n := bs_eq (lwT_lt _ _ _ _) fun j hj => by
  have hs2 : set < 1024 := Nat.lt_of_lt_of_le hs (p2_10 hn)
  rw [lwT_bit, decide_eq_true hj, Bool.true_and, Bool.eq_iff_iff]
  unfold bndP
  rw [List.all_eq_true, List.all_eq_true]
  simp only [if_false, Bool.false_eq_true, List.mem_range]
  constructor
  · intro h k hk
    cases hb : set.testBit k
    · rfl
    · rw [Bool.not_true, Bool.false_or]
      obtain ⟨i, hi, he⟩ := List.getElem_of_mem ((mbs_mem hs2).2 hb)
      have := h i hi
      rwa [List.getD_eq_getElem?_getD, List.getElem?_eq_getElem hi, Option.getD_some, he] at this
  · intro h i hi
    have hm : (mbs set).getD i 0 ∈ mbs set := by rw [List.getD_eq_getElem?_getD, List.getElem?_eq_getElem hi]; exact List.getElem_mem _
    rw [mbs_mem hs2] at hm
    have hk : (mbs set).getD i 0 < n := by
      rcases Nat.lt_or_ge ((mbs set).getD i 0) n with h1 | h1
      · exact h1
      · rw [Nat.testBit_lt_two_pow (Nat.lt_of_lt_of_le hs (Nat.pow_le_pow_right (n := 2) (by decide) h1))] at hm; cases hm
    have := h _ hk
    rwa [hm, Bool.not_true, Bool.false_or] at this
end Go.Proofs.YtjpjmcfhhjdkpaaDoor
