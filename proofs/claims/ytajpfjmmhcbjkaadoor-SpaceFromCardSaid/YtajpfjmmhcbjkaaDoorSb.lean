import Derived.Test.YtajpfjmmhcbjkaaDoorSa
import Derived.Test.YtajpfjmmhcbjkaaDoorFi
set_option linter.unusedSimpArgs false
set_option linter.unusedVariables false
set_option linter.unusedSectionVars false
set_option maxRecDepth 20000
namespace Go.Proofs.YtajpfjmmhcbjkaaDoor
attribute [local irreducible] QOp aL aC qL
def clP (n : Nat) (ns : List Nat) (set i : Nat) : Bool := (List.range n).any fun k => set.testBit k && upB ns i k
def clN (n : Nat) (ns : List Nat) (set : Nat) : Nat := bs (clP n ns set) n
def reN (n s : Nat) : Nat := 2 ^ n - 1 - s
theorem clN_lt (n : Nat) (ns : List Nat) (s : Nat) : clN n ns s < 2 ^ n := bs_lt _ _
theorem p2_pos (n : Nat) : 0 < 2 ^ n := Nat.pow_pos (by decide)
theorem reN_lt (n s : Nat) : reN n s < 2 ^ n := by have := p2_pos n; unfold reN; omega
theorem bit_small {n s i : Nat} (hs : s < 2 ^ n) (h : s.testBit i = true) : i < n := by
  rcases Nat.lt_or_ge i n with h1 | h1
  · exact h1
  · rw [Nat.testBit_lt_two_pow (Nat.lt_of_lt_of_le hs (Nat.pow_le_pow_right (n := 2) (by decide) h1))] at h; cases h
theorem upS_iff {ns : List Nat} {a b : Nat} : upB ns a b = true ↔ a = b ∨ lt ns a b = true := by unfold upB; rw [Bool.or_eq_true, decide_eq_true_eq]
theorem clN_bit {n : Nat} {ns : List Nat} {s i : Nat} : (clN n ns s).testBit i = true ↔ i < n ∧ ∃ k, k < n ∧ s.testBit k = true ∧ (i = k ∨ lt ns i k = true) := by
  unfold clN clP
  rw [bs_bit, Bool.and_eq_true, decide_eq_true_eq, List.any_eq_true]
  constructor
  · rintro ⟨h, k, hk, h2⟩
    rw [Bool.and_eq_true, upS_iff] at h2
    exact ⟨h, k, List.mem_range.1 hk, h2.1, h2.2⟩
  · rintro ⟨h, k, hk, h2, h3⟩
    exact ⟨h, k, List.mem_range.2 hk, by rw [Bool.and_eq_true, upS_iff]; exact ⟨h2, h3⟩⟩
theorem reN_bit {n s : Nat} (hs : s < 2 ^ n) (i : Nat) : (reN n s).testBit i = (decide (i < n) && !s.testBit i) := by
  have e : reN n s = 2 ^ n - (s + 1) := by unfold reN; omega
  rw [e, Nat.testBit_two_pow_sub_succ hs]
def sle (a b : Nat) : Prop := ∀ i, a.testBit i = true → b.testBit i = true
theorem sle.antisymm {a b : Nat} (h : sle a b) (k : sle b a) : a = b := Nat.eq_of_testBit_eq fun i => by
  rw [Bool.eq_iff_iff]; exact ⟨h i, k i⟩
theorem sle.trans {a b c : Nat} (h : sle a b) (k : sle b c) : sle a c := fun i hi => k i (h i hi)
theorem cl_ext {n : Nat} {ns : List Nat} {s : Nat} (hs : s < 2 ^ n) : sle s (clN n ns s) := fun i hi => clN_bit.2 ⟨bit_small hs hi, i, bit_small hs hi, hi, .inl rfl⟩
def trnN (n : Nat) (ns : List Nat) (s : Nat) : Nat := (tvN (clN n ns) (reN n) (2 ^ n) s).length
/-! The program's closure: point by point. -/
def clSt (ns L : List Nat) (s : Nat) : Nat → Nat
  | 0 => s
  | k + 1 => clSt ns L s k ||| ns.getD (L.getD k 0) 0
theorem clSt_s (ns L : List Nat) (s k : Nat) : clSt ns L s (k + 1) = clSt ns L s k ||| ns.getD (L.getD k 0) 0 := rfl
theorem clSt_lt {n : Nat} {ns : List Nat} (hv : Vld n ns) {L : List Nat} {s : Nat} (hs : s < 2 ^ n) : ∀ k, clSt ns L s k < 2 ^ n
  | 0 => hs
  | k + 1 => by rw [clSt_s]; exact Nat.or_lt_two_pow (clSt_lt hv hs k) (hv.get _)
theorem clSt_bit (ns L : List Nat) (s j : Nat) : ∀ k, (clSt ns L s k).testBit j = (s.testBit j || (List.range k).any fun i => lt ns j (L.getD i 0))
  | 0 => by simp [clSt]
  | k + 1 => by rw [clSt_s, Nat.testBit_or, clSt_bit ns L s j k, List.range_succ, List.any_append, Bool.or_assoc]; simp [lt]
theorem clSt_eq {n : Nat} {ns : List Nat} (hv : Vld n ns) (hn : n ≤ 10) {s : Nat} (hs : s < 2 ^ n) : clSt ns (mbs s) s (mbs s).length = clN n ns s := bs_eq (clSt_lt hv hs _) fun j hj => by
  have hs2 : s < 1024 := Nat.lt_of_lt_of_le hs (p2_10 hn)
  rw [clSt_bit, Bool.eq_iff_iff, Bool.or_eq_true, List.any_eq_true]
  unfold clP
  rw [List.any_eq_true]
  constructor
  · rintro (h | ⟨i, hi, h⟩)
    · exact ⟨j, List.mem_range.2 hj, by rw [h]; simp [upB]⟩
    · rw [List.mem_range] at hi
      have hm : (mbs s).getD i 0 ∈ mbs s := by rw [List.getD_eq_getElem?_getD, List.getElem?_eq_getElem hi]; exact List.getElem_mem _
      rw [mbs_mem hs2] at hm
      exact ⟨_, List.mem_range.2 (bit_small hs hm), by rw [hm, Bool.true_and, upS_iff]; exact .inr h⟩
  · rintro ⟨k, hk, h⟩
    rw [Bool.and_eq_true, upS_iff] at h
    rcases h with ⟨h1, rfl | h2⟩
    · exact .inl h1
    · obtain ⟨i, hi, he⟩ := List.getElem_of_mem ((mbs_mem hs2).2 h1)
      exact .inr ⟨i, List.mem_range.2 hi, by rw [List.getD_eq_getElem?_getD, List.getElem?_eq_getElem hi, Option.getD_some, he]; exact h2⟩
end Go.Proofs.YtajpfjmmhcbjkaaDoor
