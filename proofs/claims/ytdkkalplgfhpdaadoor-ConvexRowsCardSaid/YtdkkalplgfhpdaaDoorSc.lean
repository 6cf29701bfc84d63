import Derived.Test.YtdkkalplgfhpdaaDoorSb
import Derived.Test.YtdkkalplgfhpdaaDoorGl
set_option linter.unusedSimpArgs false
set_option linter.unusedVariables false
set_option linter.unusedSectionVars false
set_option maxRecDepth 20000
namespace Go.Proofs.YtdkkalplgfhpdaaDoor
attribute [local irreducible] QOp aL aC qL
/-- One pair: both have the lesser of their labels. -/
def swS (ns : List Nat) (a b : Nat) (L : List Nat) : List Nat := if lt ns a b = true then (if L.getD a 0 < L.getD b 0 then L.set b (L.getD a 0) else L.set a (L.getD b 0)) else L
def swI (n : Nat) (ns : List Nat) (a : Nat) (L : List Nat) : List Nat := iterN n (swS ns a) L
def swpR (n : Nat) (ns : List Nat) (L : List Nat) : List Nat := iterN n (swI n ns) L
def swpN (n : Nat) (ns : List Nat) (r : Nat) : List Nat := iterN r (fun _ => swpR n ns) (List.range n)
def plL (n : Nat) (ns : List Nat) : List Nat := swpN n ns n
inductive Cnn (n : Nat) (ns : List Nat) (a : Nat) : Nat → Prop where
  | self : Cnn n ns a a
  | step (b c : Nat) (h : Cnn n ns a b) (hb : b < n) (hc : c < n) (hl : lt ns b c = true ∨ lt ns c b = true) : Cnn n ns a c
theorem Cnn.trans {n : Nat} {ns : List Nat} {a b c : Nat} (h : Cnn n ns a b) (k : Cnn n ns b c) : Cnn n ns a c := by
  induction k with
  | self => exact h
  | step b c _ hb hc hl ih => exact .step b c ih hb hc hl
theorem Cnn.symm {n : Nat} {ns : List Nat} {a b : Nat} (h : Cnn n ns a b) : Cnn n ns b a := by
  induction h with
  | self => exact .self
  | step b c _ hb hc hl ih => exact (Cnn.step c b .self hc hb hl.symm).trans ih
structure Dwn (L L' : List Nat) : Prop where
  len : L'.length = L.length
  le : ∀ k, L'.getD k 0 ≤ L.getD k 0
theorem Dwn.refl (L : List Nat) : Dwn L L := ⟨rfl, fun _ => Nat.le_refl _⟩
theorem Dwn.trans {a b c : List Nat} (h : Dwn a b) (k : Dwn b c) : Dwn a c := ⟨k.len.trans h.len, fun i => Nat.le_trans (k.le i) (h.le i)⟩
def thC (n : Nat) (L : List Nat) (c : Nat) : Nat := (List.range n).countP fun k => decide (L.getD k 0 ≤ c)
def ThCl (n : Nat) (ns L : List Nat) (c : Nat) : Prop := ∀ a b, a < n → b < n → (lt ns a b = true ∨ lt ns b a = true) → L.getD a 0 ≤ c → L.getD b 0 ≤ c
def pcS (n : Nat) (ns : List Nat) (i : Nat) : Nat := bs (fun k => decide ((plL n ns).getD k 0 = i)) n
def pcsT (n : Nat) (ns : List Nat) : Nat → List Nat
  | 0 => []
  | k + 1 => if 0 < pcS n ns k then pcsT n ns k ++ [pcS n ns k] else pcsT n ns k
/-- What is left behind the first j. -/
def lfS (n : Nat) (ns : List Nat) (j : Nat) : Nat := bs (fun k => decide (j ≤ (plL n ns).getD k 0)) n
theorem zero_of {x : Nat} (h : ∀ k, x.testBit k = true → False) : x = 0 := Nat.eq_of_testBit_eq fun k => by
  rw [Nat.zero_testBit]
  cases hq : x.testBit k
  · rfl
  · exact (h k hq).elim
/-! A piece: closed till nothing comes. -/
def stp (n : Nat) (ns : List Nat) (p : Nat) : Nat := clN n (ofn n (dualP ns)) (clN n ns p)
/-! The lowest point of a set. -/
def lowb (x : Nat) : Nat := x &&& (1024 - x)
def lowk (x : Nat) : Nat := ((List.range 10).find? x.testBit).getD 0
end Go.Proofs.YtdkkalplgfhpdaaDoor
