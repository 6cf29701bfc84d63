import Derived.Test.YtgojkabjgagjcaaDoorEngT
import Derived.Test.YtgojkabjgagjcaaDoorIv
set_option linter.unusedSimpArgs false
set_option linter.unusedVariables false
set_option linter.unusedSectionVars false
namespace Go.Proofs.YtgojkabjgagjcaaDoor
open Go.RowKit
theorem gm_tup2 {ρ : Ids} {w : World} {M : Nat → Prop} {a b u : Value} (h : Gm ρ w M (.tup [.val a, .val b]) u) : u = .tuple #[a, b] := by
  generalize hav : AV.tup [.val a, .val b] = av at h
  cases h with
  | tup l vs hl h =>
    injection hav with hav
    subst hav
    have hs : vs.size = 2 := hl.symm
    have h0 := (h 0 (.val a) vs[0] rfl (Array.getElem?_eq_getElem (by omega))).val_inv
    have h1 := (h 1 (.val b) vs[1] rfl (Array.getElem?_eq_getElem (by omega))).val_inv
    congr 1
    apply Array.ext
    · exact hs
    · intro i h2 h3
      match i, h2 with
      | 0, _ => exact h0
      | 1, _ => exact h1
      | i + 2, h2 => exact absurd h2 (by omega)
  | _ => cases hav
section
variable {P : Program} {st : St} {ty : TypeId} {pos : String} {af : Array Edge}
theorem Q_callT2 {d : Option Tmp} {g : Operand} {xs : Array Operand} {ats : Array TypeId} {f : FuncId} {caps args : List AV} {x y : Value} {objs' : List AO} (hf : Callee' st g f caps) (hc : AC P f args [] (.tup [.val x, .val y]) objs') (hv : VwL st.objs [] (evs st xs ++ caps) args) {gd : Option (Nat × Bool)} :
    QOp P ⟨d, .call ⟨.value g, xs, ats⟩, ty, pos, af, gd⟩ st (.tup [.val x, .val y]) := by
  intro _ ρ w a hb
  refine ⟨.tuple #[x, y], .tup _ _ rfl (fun i av v h1 h2 => ?_), fun w1 hw => ?_⟩
  · match i, h1, h2 with
    | 0, h1, h2 => injection h1 with h1; injection h2 with h2; subst h1; subst h2; exact .val _
    | 1, h1, h2 => injection h1 with h1; injection h2 with h2; subst h1; subst h2; exact .val _
    | i + 2, h1, h2 => simp at h1
  have hb1 := hb.mono hw
  obtain ⟨cs, h1, h2, h3⟩ := callee_val hb1 hf
  have ho : VwOs st.objs [] [] := ⟨rfl, List.nodup_nil, fun id' o' h => by simp at h⟩
  obtain ⟨h4, h5⟩ := args_gm hb1 h2 h3 ho hv
  unfold Oper.quietAt
  rw [exec_call hc.1 h1]
  refine ⟨rfl, (hc.2 (reId ρ []) w1 _ (hb1.good.view ho) h4 h5).mono ?_⟩
  rintro e w' ⟨u, ρ', rfl, hs, _, hg, _, _⟩
  have hsm := hs.below (fun x _ ⟨id, h⟩ => by obtain ⟨o, l, h6, _⟩ := h; simp at h6)
  rw [gm_tup2 hg]
  exact ⟨rfl, hw.trans (hsm.mono hw.size)⟩
end
end Go.Proofs.YtgojkabjgagjcaaDoor
set_option linter.unusedSimpArgs false
set_option linter.unusedVariables false
set_option linter.unusedSectionVars false
set_option maxRecDepth 20000
namespace Go.Proofs.YtgojkabjgagjcaaDoor
attribute [local irreducible] QOp aL aC qL
/-- The first of the first k of which f tells something. -/
def fstK {α : Type} (f : Nat → Option α) : Nat → Option α
  | 0 => none
  | k + 1 => match fstK f k with
    | some a => some a
    | none => f k
theorem fstK_none {α : Type} {f : Nat → Option α} : ∀ {k : Nat}, (∀ i, i < k → f i = none) → fstK f k = none
  | 0, _ => rfl
  | k + 1, h => by rw [fstK, fstK_none fun i hi => h i (by omega)]; exact h k (by omega)
theorem fstK_some {α : Type} {f : Nat → Option α} {i : Nat} {a : α} (h1 : ∀ j, j < i → f j = none) (h2 : f i = some a) : ∀ {k : Nat}, i < k → fstK f k = some a
  | k + 1, h => by
    by_cases hik : i = k
    · subst hik
      rw [fstK, fstK_none h1]; exact h2
    · rw [fstK, fstK_some h1 h2 (by omega)]
theorem fstK_iff {α : Type} {f : Nat → Option α} : ∀ {k : Nat}, fstK f k = none ↔ ∀ i, i < k → f i = none
  | 0 => ⟨fun _ i hi => by omega, fun _ => rfl⟩
  | k + 1 => by
    refine ⟨fun h i hi => ?_, fstK_none⟩
    rw [fstK] at h
    cases hf : fstK f k with
    | some a => rw [hf] at h; cases h
    | none =>
      rw [hf] at h
      by_cases hik : i = k
      · subst hik; exact h
      · exact fstK_iff.1 hf i (by omega)
def tri3 (h : Nat → Nat → Nat → Bool) (x y z : Nat) : Option (List Nat) := if h x y z = true then some [x, y, z] else none
def tri2 (n : Nat) (h : Nat → Nat → Nat → Bool) (x y : Nat) : Option (List Nat) := fstK (tri3 h x y) n
def tri1 (n : Nat) (h : Nat → Nat → Nat → Bool) (x : Nat) : Option (List Nat) := fstK (tri2 n h x) n
def triF (n : Nat) (h : Nat → Nat → Nat → Bool) : Option (List Nat) := fstK (tri1 n h) n
def triL (n : Nat) (h : Nat → Nat → Nat → Bool) : List Nat := (triF n h).getD []
def triB (n : Nat) (h : Nat → Nat → Nat → Bool) : Bool := (triF n h).isSome
theorem tri_hit {n x y z : Nat} {h : Nat → Nat → Nat → Bool} (hx : x < n) (hy : y < n) (hz : z < n) (h1 : ∀ j, j < x → tri1 n h j = none) (h2 : ∀ j, j < y → tri2 n h x j = none) (h3 : ∀ j, j < z → tri3 h x y j = none) (h4 : h x y z = true) :
    triL n h = [x, y, z] ∧ triB n h = true := by
  have e : triF n h = some [x, y, z] := fstK_some h1 (fstK_some h2 (fstK_some h3 (by unfold tri3; rw [if_pos h4]) hz) hy) hx
  unfold triL triB
  rw [e]; exact ⟨rfl, rfl⟩
theorem tri_miss {n : Nat} {h : Nat → Nat → Nat → Bool} (h1 : ∀ j, j < n → tri1 n h j = none) : triL n h = [] ∧ triB n h = false := by
  have e : triF n h = none := fstK_none h1
  unfold triL triB
  rw [e]; exact ⟨rfl, rfl⟩
theorem triB_iff {n : Nat} {h : Nat → Nat → Nat → Bool} : triB n h = false ↔ ∀ x y z, x < n → y < n → z < n → h x y z = false := by
  have e : triB n h = false ↔ triF n h = none := by unfold triB; cases triF n h <;> simp
  rw [e]
  unfold triF tri1 tri2
  rw [fstK_iff]
  constructor
  · intro h1 x y z hx hy hz
    have := fstK_iff.1 (fstK_iff.1 (h1 x hx) y hy) z hz
    unfold tri3 at this
    cases hq : h x y z
    · rfl
    · rw [hq, if_pos rfl] at this; cases this
  · intro h1 x hx
    refine fstK_none fun y hy => fstK_none fun z hz => ?_
    unfold tri3
    rw [h1 x y z hx hy hz, if_neg (by decide)]
end Go.Proofs.YtgojkabjgagjcaaDoor
