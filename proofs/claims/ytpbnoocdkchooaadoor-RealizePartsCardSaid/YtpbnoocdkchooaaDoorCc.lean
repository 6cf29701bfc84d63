import Derived.Test.YtpbnoocdkchooaaDoorIp
import Derived.Test.YtpbnoocdkchooaaDoorEngT
import Derived.Test.YtpbnoocdkchooaaDoorCb
import Derived.Laws.Slices
import Derived.Lib.AppendZeros
set_option linter.unusedSimpArgs false
set_option linter.unusedVariables false
set_option linter.unusedSectionVars false
set_option maxRecDepth 20000
namespace Go.Proofs.YtpbnoocdkchooaaDoor
attribute [local irreducible] QOp aL aC qL
/-- How many of the first k. -/
def nc (p : Nat → Bool) : Nat → Nat
  | 0 => 0
  | k + 1 => if p k = true then nc p k + 1 else nc p k
/-- What is below x, and not x, taken together, as far as k. -/
def jnT (f g : Nat → Nat → Nat) (low x : Nat) : Nat → Nat
  | 0 => low
  | k + 1 => if k ≠ x ∧ f k x = k then g (jnT f g low x k) k else jnT f g low x k
/-- Does x cover y. -/
def CovP (n : Nat) (f : Nat → Nat → Nat) (x y : Nat) : Prop := (y ≠ x ∧ f y x = y) ∧ ∀ z, z < n → z = x ∨ z = y ∨ f y z ≠ y ∨ f z x ≠ z
instance (n : Nat) (f : Nat → Nat → Nat) (x y : Nat) : Decidable (CovP n f x y) := by unfold CovP; infer_instance
/-- From y up, as long as it is below x. -/
def upT (f : Nat → Nat → Nat) (x y : Nat) : Nat → Nat
  | 0 => y
  | k + 1 => if f (upT f x y k) k = upT f x y k ∧ k ≠ x ∧ f k x = k then k else upT f x y k
section
variable {n : Nat} {f g : Nat → Nat → Nat} (L : Lt n f g)
include L
end
end Go.Proofs.YtpbnoocdkchooaaDoor
set_option linter.unusedSimpArgs false
set_option linter.unusedVariables false
set_option linter.unusedSectionVars false
set_option maxRecDepth 20000
namespace Go.Proofs.YtpbnoocdkchooaaDoor
attribute [local irreducible] QOp aL aC qL
def idx {α : Type} (p : α → Bool) (l : List α) : Int := match l.findIdx? p with
  | some i => i
  | none => -1
theorem idx_some {α : Type} {p : α → Bool} {l : List α} {k : Nat} (hk : k < l.length) (h0 : ∀ i (h : i < l.length), i < k → p l[i] = false) (h1 : p l[k] = true) : idx p l = k := by
  unfold idx
  rw [(List.findIdx?_eq_some_iff_getElem (p := p) (i := k) (xs := l)).2 ⟨hk, h1, fun j hj => by rw [h0 j (by omega) hj]; decide⟩]
theorem idx_none {α : Type} {p : α → Bool} {l : List α} (h0 : ∀ i (h : i < l.length), p l[i] = false) : idx p l = -1 := by
  unfold idx
  rw [List.findIdx?_eq_none_iff.2 (fun x hx => by
    obtain ⟨i, hi, rfl⟩ := List.getElem_of_mem hx
    exact h0 i hi)]
theorem getD_of {α : Type} {l : List α} {k : Nat} (h : k < l.length) (z : α) : l.getD k z = l[k] := by rw [List.getD_eq_getElem?_getD, List.getElem?_eq_getElem h]; rfl

end Go.Proofs.YtpbnoocdkchooaaDoor
set_option linter.unusedSimpArgs false
set_option linter.unusedVariables false
set_option linter.unusedSectionVars false
namespace Go.Proofs.YtpbnoocdkchooaaDoor
open Go.RowKit

theorem slT_elemJ {P : Program} {T e : TypeId} {sz : Nat} (ht : SlT P T e sz) : P.elem T = e ∧ P.underlying T = some (.slice (P.elem T)) := by
  have h : P.elem T = e := by unfold Program.elem; rw [ht.1]
  exact ⟨h, by rw [h]; exact ht.1⟩

section
variable {P : Program} {st : St} {d : Option Tmp} {ty : TypeId} {pos : String} {af : Array Edge} {g : Option (Nat × Bool)}
/-! Slices of tables. -/
def tabc (l : List (List (List Int))) : List Dat := l.map fun t => .sl 1 (rowc t)
def tabs (l : List (List (List Int))) : AV := .ro (.sl 1 (tabc l))
/-! Lattices one behind the other. -/
def latc : List (Int × List (List Int) × List (List Int)) → List Dat
  | [] => []
  | p :: r => .val (.int .i64 p.1) :: .sl 1 (rowc p.2.1) :: .sl 1 (rowc p.2.2) :: latc r
def lats (l : List (Int × List (List Int) × List (List Int))) : AV := .ro (.sl 3 (latc l))
abbrev latA (N : Int) (m j : List (List Int)) : AV := .agg [.val (.int .i64 N), rows m, rows j]
end

end Go.Proofs.YtpbnoocdkchooaaDoor
set_option linter.unusedSimpArgs false
set_option linter.unusedVariables false
set_option linter.unusedSectionVars false
set_option maxRecDepth 20000
namespace Go.Proofs.YtpbnoocdkchooaaDoor
attribute [local irreducible] QOp aL aC qL
def cz (m j : List (List Int)) (k : Nat) : Nat := if k = 0 then 0 else if k = 1 then m.length else m.length + j.length
def cc (m j : List (List Int)) (k : Nat) : List (List Int) := if k = 0 then [] else if k = 1 then m else m ++ j
def badLn (N : Int) (r : List Int) : Bool := decide ((r.length : Int) ≠ N)
end Go.Proofs.YtpbnoocdkchooaaDoor
set_option linter.unusedSimpArgs false
set_option linter.unusedVariables false
set_option linter.unusedSectionVars false
set_option maxRecDepth 20000
namespace Go.Proofs.YtpbnoocdkchooaaDoor
attribute [local irreducible] QOp aL aC qL
section
variable {P : Program} {st : St} {d : Option Tmp} {ty : TypeId} {pos : String} {af : Array Edge} {g : Option (Nat × Bool)}
def tw (M J : List (List Nat)) (i : Nat) : List (List Nat) := if i = 0 then M else J
end
def twl (n : Nat) (M J : List (List Nat)) (i : Nat) : Prop := LawT n (ta (tw M J i)) (ta (tw M J (1 - i)))
end Go.Proofs.YtpbnoocdkchooaaDoor
set_option linter.unusedSimpArgs false
set_option linter.unusedVariables false
set_option linter.unusedSectionVars false
set_option maxRecDepth 20000
namespace Go.Proofs.YtpbnoocdkchooaaDoor
attribute [local irreducible] QOp aL aC qL
/-- The irreducible ones of the first k. -/
def irT (n : Nat) (M : List (List Nat)) (k : Nat) : List Nat := (List.range k).filter fun x => decide (nc (fun y => decide (CovP n (ta M) x y)) n = 1)
/-- A lattice, told by its tables. -/
structure La (n : Nat) (M J : List (List Nat)) : Prop where
  n1 : 1 ≤ n
  n2 : n ≤ 40
  sM : Sq n M
  sJ : Sq n J
  A : Lt n (ta M) (ta J)
end Go.Proofs.YtpbnoocdkchooaaDoor
set_option linter.unusedSimpArgs false
set_option linter.unusedVariables false
set_option linter.unusedSectionVars false
set_option maxRecDepth 20000
namespace Go.Proofs.YtpbnoocdkchooaaDoor
attribute [local irreducible] QOp aL aC qL
abbrev okz (f g : Nat → Nat → Nat) (c : List Nat) (x y z : Nat) : Prop := c.getD (f x z) 0 = c.getD (f y z) 0 ∧ c.getD (g x z) 0 = c.getD (g y z) 0
end Go.Proofs.YtpbnoocdkchooaaDoor
