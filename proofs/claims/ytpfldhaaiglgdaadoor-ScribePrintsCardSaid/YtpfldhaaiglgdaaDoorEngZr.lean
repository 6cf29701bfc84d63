import Derived.Test.YtpfldhaaiglgdaaDoorEngZq
set_option linter.unusedSimpArgs false
set_option linter.unusedVariables false
set_option linter.unusedSectionVars false
namespace Go.Proofs.YtpfldhaaiglgdaaDoor
open Go.RowKit
/-- What a function that is ranged over promises: it hands on L's values, one behind the other, until it is told to stop. -/
def IterC (P : Program) (gm : FuncId) (caps : List AV) {α : Type} (enc : α → AV) (L : List α) : Prop :=
  Enters P gm ∧ ∀ [Zs] (l : Nat) (M : Nat → Prop) (J Jx : List α → World → Prop) (w : World) (vs : Array Value),
    (∀ b, M b → Zs.z b) → (∀ p, p ∈ Tab → ¬ M p.1) → Good [] w [] →
    (∀ pre W W' Mi, (∀ b, Mi b → w.heap.size ≤ b) → w.heap.size ≤ W.heap.size → Same Mi W W' → J pre W → J pre W') →
    (∀ pre W W' Mi, (∀ b, Mi b → w.heap.size ≤ b) → w.heap.size ≤ W.heap.size → Same Mi W W' → Jx pre W → Jx pre W') →
    (∀ pre x W v, pre ++ [x] <+: L → J pre W → w.heap.size ≤ W.heap.size → Good [] W [] → Gm [] W (Ban [] []) (enc x) v →
      YieldAt Fence.wide 0 P l #[v] W fun e W' => (e = .returned (.bool true) ∧ Same M W W' ∧ J (pre ++ [x]) W') ∨ (e = .returned (.bool false) ∧ Same M W W' ∧ Jx (pre ++ [x]) W')) →
    J [] w → vs.size = caps.length → (∀ (i : Nat) (av : AV) (v : Value), caps[i]? = some av → vs[i]? = some v → Gm [] w (Ban [] []) av v) →
    Calls P gm (#[.func (.yield l) #[] #[]] ++ vs) w fun e w' => (∃ v, e = .returned v) ∧ (J L w' ∨ ∃ pre, pre <+: L ∧ Jx pre w')
def roundA (o o' : List AO) (Y X : Prop) : Exit → St → Prop
  | .normal, st => Y ∧ st.objs = o
  | .ret, st => X ∧ st.objs = o'
  | _, _ => False
end Go.Proofs.YtpfldhaaiglgdaaDoor
