import Derived.Test.YtkackilhfkicoaaDoorRc
import Derived.Test.YtkackilhfkicoaaDoorGc
import Derived.Test.YtkackilhfkicoaaDoorFm
import Derived.Test.YtkackilhfkicoaaDoorFkb
import Derived.Test.YtkackilhfkicoaaDoorEngZe
set_option linter.unusedSimpArgs false
set_option linter.unusedVariables false
set_option linter.unusedSectionVars false
set_option maxRecDepth 20000
namespace Go.Proofs.YtkackilhfkicoaaDoor
attribute [local irreducible] QOp aL aC qL
attribute [local irreducible] FOp POp hL xH zL
def idS (n : Nat) (ns : List Nat) : List Nat := idTo n ns (2 ^ n)
/-! Binomial numbers, as both reckon them. -/
def bn (n : Int) : Nat → Int
  | 0 => 1
  | k + 1 => (bn n k * (n - k)).tdiv (k + 1)
def bnOk (n : Int) (k : Nat) : Bool := decide ((bn n k).natAbs ≤ 65000000) && decide ((bn n k * (n - k)).natAbs ≤ 10000000000)
section
variable {P : Program} {st : St} {d : Option Tmp} {ty : TypeId} {pos : String} {af : Array Edge} {g : Option (Nat × Bool)}
end
/-! Maps onto chains. -/
def neB (s t : Nat) : Bool := decide (s ≠ t)
def onT (S : List Nat) (k : Nat) : Nat := wI S neB k (S.length - 1)
def onL (S : List Nat) (m : Nat) : List Nat := (List.range m).map (onT S)
/-! The reference's. -/
/-- Places below b are done, the next one is under way. -/
structure NxR (len b : Nat) (F : Nat → Nat) (v : Nat) (x : List Nat) : Prop where
  len : x.length = len
  old : ∀ c, c < b → x.getD c 0 = F c
  now : x.getD b 0 = v
  new : ∀ c, b < c → x.getD c 0 = 0
theorem NxR.start (len : Nat) (F : Nat → Nat) : NxR len 0 F 0 (List.replicate len 0) := by
  have h0 : ∀ c, (List.replicate len 0).getD c 0 = 0 := fun c => by simp [List.getD_eq_getElem?_getD, List.getElem?_replicate]; split <;> rfl
  exact ⟨by simp, fun c h => absurd h (Nat.not_lt_zero _), h0 0, fun c _ => h0 c⟩
theorem NxR.put {len b v w : Nat} {F : Nat → Nat} {x : List Nat} (h : NxR len b F v x) (hb : b < len) : NxR len b F w (x.set b w) := by
  have hx : b < x.length := by rw [h.len]; exact hb
  refine ⟨by rw [List.length_set]; exact h.len, fun c hc => ?_, ?_, fun c hc => ?_⟩
  · rw [getD_setS _ _ _ _ hx, if_neg (by omega)]; exact h.old c hc
  · rw [getD_setS _ _ _ _ hx, if_pos rfl]
  · rw [getD_setS _ _ _ _ hx, if_neg (by omega)]; exact h.new c hc
theorem NxR.next {len b v : Nat} {F : Nat → Nat} {x : List Nat} (h : NxR len b F v x) (hv : v = F b) : NxR len (b + 1) F 0 x := by
  refine ⟨h.len, fun c hc => ?_, h.new _ (by omega), fun c hc => h.new c (by omega)⟩
  by_cases e : c = b
  · subst e; rw [h.now, hv]
  · exact h.old c (by omega)
theorem NxR.end {len v : Nat} {F : Nat → Nat} {x : List Nat} (h : NxR len len F v x) : x = (List.range len).map F := by
  refine List.ext_getElem (by simp [h.len]) fun i h1 h2 => ?_
  have := h.old i (by rw [← h.len]; exact h1)
  rw [List.getD_eq_getElem?_getD, List.getElem?_eq_getElem h1] at this
  simpa using this
def wR (S : List Nat) (p : Nat → Nat → Bool) (k : Nat) : List Nat := (List.range S.length).map (wI S p k)
end Go.Proofs.YtkackilhfkicoaaDoor
