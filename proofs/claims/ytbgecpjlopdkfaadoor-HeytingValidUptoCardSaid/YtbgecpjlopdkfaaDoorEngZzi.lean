import Derived.Test.YtbgecpjlopdkfaaDoorEngZd
import Derived.Test.YtbgecpjlopdkfaaDoorEngZp
import Derived.Laws.Slices
set_option linter.unusedSimpArgs false
set_option linter.unusedVariables false
set_option linter.unusedSectionVars false
namespace Go.Proofs.YtbgecpjlopdkfaaDoor
open Go.RowKit
section
variable {P : Program} {ops : Array Oper} {md : Region.Mode} {C S : World → Prop}
def sinkG (md : Region.Mode) (ops : Array Oper) (n : Nat) (L0 fin : Array Bool) : Bool :=
  (List.range ops.size).all fun i => !fin.getD i false || L0.getD i false || (List.range ops.size).any fun j => decide (i < j) && (decide (j = n) || (fin.getD j false && !L0.getD j false)) && Region.waitsFor md ops j i
def chainG (md : Region.Mode) (ops : Array Oper) (n : Nat) (fin : Array Bool) : Bool :=
  (List.range ops.size).all fun t => fin.getD t false || decide (t = n) || (List.range ops.size).any fun j => !fin.getD j false && Region.waitsFor md ops t j
structure HInv (md : Region.Mode) (ops : Array Oper) (L0 fin listed : Array Bool) : Prop where
  size : listed.size = ops.size
  closed : ∀ j oj, ops[j]? = some oj → listed.getD j false = true → ∀ e ∈ oj.after, Region.binds md e = true → listed.getD e.on false = true
  up : ∀ i, L0.getD i false = true → listed.getD i false = true
  sub : ∀ i, listed.getD i false = true → fin.getD i false = true
theorem HInv.set {i : Nat} {L0 fin listed : Array Bool} (inv : HInv md ops L0 fin listed) (hi : i ∈ Region.ready md ops listed) (hf : fin.getD i false = true) : HInv md ops L0 fin (listed.setIfInBounds i true) := by
  obtain ⟨_, oi, hoi, hall⟩ := mem_ready.1 hi
  have his : i < listed.size := by rw [inv.size]; exact (Array.getElem?_eq_some_iff.1 hoi).1
  have hset : ∀ j, listed.getD j false = true → (listed.setIfInBounds i true).getD j false = true := fun j hj => by
    by_cases hij : i = j
    · subst hij; simp [his]
    · rw [getD_set_ne false hij]; exact hj
  refine ⟨by simp [inv.size], fun j oj hj hl e he hb => ?_, fun j hj => hset j (inv.up j hj), fun j hj => ?_⟩
  · by_cases hij : i = j
    · subst hij
      have : oj = oi := Option.some.inj (hj.symm.trans hoi)
      subst this
      exact hset _ (hall e he hb)
    · rw [getD_set_ne false hij] at hl
      exact hset _ (inv.closed j oj hj hl e he hb)
  · by_cases hij : i = j
    · subst hij; exact hf
    · rw [getD_set_ne false hij] at hj
      exact inv.sub j hj
def anyHd (P : Program) (md : Region.Mode) (ops : Array Oper) (C : World → Prop) (L : Array Bool → Act → Prop) : Nat → Array Bool → Act → Prop
  | 0, listed, a => L listed a
  | f + 1, listed, a => Region.ready md ops listed ≠ [] ∧ ∀ i ∈ Region.ready md ops listed, qOp P ops C i (anyHd P md ops C L f (listed.setIfInBounds i true)) a
/-- What is not of the stage waits. -/
def Waits (md : Region.Mode) (ops : Array Oper) (L0 fin : Array Bool) : Prop := ∀ listed, HInv md ops L0 fin listed → ∀ i, i < ops.size → fin.getD i false = true → listed.getD i true = false → ∀ t, fin.getD t false = false → t ∉ Region.ready md ops listed
def lexTo (md : Region.Mode) (ops : Array Oper) (fin : Array Bool) : List Nat → Array Bool → Bool
  | [], listed => decide (listed = fin) && (Region.ready md ops listed).all fun j => !fin.getD j false
  | k :: is, listed => (Region.ready md ops listed).contains k && Region.free md ops listed k && fin.getD k false && lexTo md ops fin is (listed.setIfInBounds k true)
def invG (md : Region.Mode) (ops : Array Oper) (fin listed : Array Bool) : Bool :=
  decide (listed.size = ops.size) && ((List.range ops.size).all fun j => !listed.getD j false || (match ops[j]? with | some oj => oj.after.all fun e => !Region.binds md e || listed.getD e.on false | none => true)) && (List.range ops.size).all fun t => !listed.getD t false || fin.getD t false
def stgB (ops : Array Oper) (n : Nat) (is : List Nat) (listed fin : Array Bool) : Bool :=
  Region.noSelect ops && sinkG .any ops n listed fin && chainG .any ops n fin && invG .any ops fin listed && lexTo .any ops fin is listed && !fin.getD n false
end
section
variable {P : Program} {k : Nat} {cx : Cx k} {ops : Array Oper} {st : St} {K : St → Prop} {S : World → Prop}
def reB (ops : Array Oper) (is : List Nat) (listed fin : Array Bool) : Bool :=
  Region.noSelect ops && ((List.range ops.size).all fun t => fin.getD t false) && invG .any ops fin listed && lexTo .any ops fin is listed && (Region.ready .any ops fin).isEmpty
end
end Go.Proofs.YtbgecpjlopdkfaaDoor
