/- Regions that draw their order, order by order: a few operations, of which several make memory. -/
import Derived.Test.YthchhaaplimafaaEngZ
set_option linter.unusedSimpArgs false
set_option linter.unusedVariables false
namespace Go.Proofs.Ythchhaaplimafaa
open Go.RowKit
section
variable {P : Program} {k : Nat} {cx : Cx k} {ops : Array Oper} {Q : Exit → St → Prop} {st : St}
theorem wp_exits {o : Oper} {a : Act} {w : World} {next : Act → World → Prop} {R R' : Exit → Act → World → Prop} (h : ∀ e, e ≠ .normal → R e = R' e) (hh : o.wp P a w next R) : o.wp P a w next R' := by
  have hl : LetsOut R → LetsOut R' := fun ⟨a, w, h'⟩ => ⟨a, w, by rw [← h _ (by intro h; cases h)]; exact h'⟩
  unfold Oper.wp at *
  generalize (execOp a.eval o).run P w = r at *
  have hp : ∀ ch a w, R (.panic ch) a w → R' (.panic ch) a w := fun ch a w h' => by rw [← h (.panic ch) (by intro h; cases h)]; exact h'
  cases r with
  | ok x w' =>
    cases x <;> simp only [Oper.upon] at hh ⊢ <;>
      first
        | exact hh
        | exact Calls.mono hh (fun e w'' he => by cases e <;> first | exact he | exact hp _ _ _ he | exact hl he)
  | halt x w' => cases x <;> simp only [Oper.upon] at hh ⊢ <;> first | exact hh | exact hp _ _ _ hh
/-- All orders of what is left: what is done is told by listed. -/
def xL [Zs] (P : Program) {k : Nat} (cx : Cx k) (ops : Array Oper) (Q : Exit → St → Prop) (f : Nat) (listed : List Bool) (st : St) : Prop :=
  ∀ a w, Rel cx st a w → wpAny P .any ops (lift cx Q) f listed.toArray a w
def xQ [Zs] (P : Program) {k : Nat} (cx : Cx k) (ops : Array Oper) (Q : Exit → St → Prop) (f : Nat) (listed : List Bool) : Exit → St → Prop
  | .normal, st => xL P cx ops Q f listed st
  | e, st => Q e st
def xAll [Zs] (P : Program) {k : Nat} (cx : Cx k) (ops : Array Oper) (Q : Exit → St → Prop) (f : Nat) (listed : List Bool) (st : St) : List Nat → Prop
  | [] => True
  | i :: r => (∃ o, ops[i]? = some o ∧ aL P cx ops (xQ P cx ops Q f (listed.set i true)) [o] st) ∧ xAll P cx ops Q f listed st r
theorem xAll_mem [Zs] {f : Nat} {listed : List Bool} : ∀ {l : List Nat}, xAll P cx ops Q f listed st l → ∀ i ∈ l, ∃ o, ops[i]? = some o ∧ aL P cx ops (xQ P cx ops Q f (listed.set i true)) [o] st
  | [], _, i, hi => by simp at hi
  | j :: l, h, i, hi => by
    rcases List.mem_cons.1 hi with rfl | hi
    · exact h.1
    · exact xAll_mem h.2 i hi
theorem x_done [Zs] {listed : List Bool} (hr : Region.ready .any ops listed.toArray = []) (h : Q .normal st) : xL P cx ops Q 0 listed st :=
  fun a w hrel => ⟨hr, st, h, hrel⟩
theorem x_step [Zs] {f : Nat} {listed : List Bool} {i : Nat} {is : List Nat} (hr : Region.ready .any ops listed.toArray = i :: is) (h : xAll P cx ops Q f listed st (i :: is)) : xL P cx ops Q (f + 1) listed st := by
  intro a w hrel
  refine ⟨fun h0 => (by rw [hr] at h0; cases h0), fun j hj => ?_⟩
  rw [hr] at hj
  obtain ⟨o, ho, hl⟩ := xAll_mem h j hj
  have hw := hl a w hrel
  unfold wpOp
  simp only [ho]
  unfold wpList at hw
  have hnext : ∀ a' w', wpList P ops (lift cx (xQ P cx ops Q f (listed.set j true))) [] a' w' → wpAny P .any ops (lift cx Q) f (listed.toArray.setIfInBounds j true) a' w' := by
    rintro a' w' ⟨st', h1, h2⟩
    have := h1 a' w' h2
    rwa [show listed.toArray.setIfInBounds j true = (listed.set j true).toArray by simp] 
  have hex : ∀ e, e ≠ .normal → lift cx (xQ P cx ops Q f (listed.set j true)) e = lift cx Q e := by
    intro e he
    cases e <;> first | rfl | exact absurd rfl he
  split
  · rename_i hwant
    rw [if_pos hwant] at hw
    rcases hw with hw | ⟨h1, a', w', h2⟩
    · exact .inl (wp_exits hex (Oper.wp_mono hnext hw))
    · exact .inr ⟨h1, a', w', by rw [← hex _ (by intro h; cases h)]; exact h2⟩
  · rename_i hwant
    rw [if_neg hwant] at hw
    exact hnext _ _ hw
theorem a_any [Zs] {id : Nat} {l : List Oper} {n : Nat} (hm : P.follows .mixedOrders = true) (hn : l.length = n) (h : xL P cx l.toArray Q n (List.replicate n false) st) : aC P cx (.region id l.toArray true) Q st := by
  subst hn
  intro a w hr
  refine wp_region_any hm ?_
  have := h a { w with drawn := w.drawn + 1 } (hr.mono ⟨rfl, rfl, rfl, Nat.le_refl _, fun _ _ => rfl⟩)
  simpa using this
/-- Just to the end of the region. -/
def ThenK (K : St → Prop) : Exit → St → Prop
  | .normal, st => K st
  | _, _ => False
theorem a_anyK [Zs] {id : Nat} {l : List Oper} {n : Nat} {K : St → Prop} (hm : P.follows .mixedOrders = true) (hn : l.length = n) (h : xL P cx l.toArray (ThenK K) n (List.replicate n false) st) : aC P cx (.region id l.toArray true) (thenA K Q) st :=
  a_mono (a_any hm hn h) fun e st h => by cases e <;> first | exact h | exact h.elim
end
end Go.Proofs.Ythchhaaplimafaa
