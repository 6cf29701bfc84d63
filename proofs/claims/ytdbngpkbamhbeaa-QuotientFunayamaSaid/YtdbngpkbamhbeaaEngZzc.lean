import Derived.Test.YtdbngpkbamhbeaaEngZd
import Derived.Test.YtdbngpkbamhbeaaEngT
import Derived.Laws.Slices
set_option linter.unusedSimpArgs false
set_option linter.unusedVariables false
set_option linter.unusedSectionVars false
namespace Go.Proofs.Ytdbngpkbamhbeaa
open Go.RowKit
theorem run_eqnil {P : Program} (w : World) (d : Nat) (t e : TypeId) (a : Option Addr) (l c : Nat) (h : P.underlying t = some (.slice e)) : (Op.equalIn (d + 1) t (.slice a l c) (.slice none 0 0)).run P w = .ok a.isNone w := by
  cases a <;> simp [Op.equalIn, run_underlying h]
theorem run_eqnil' {P : Program} (w : World) (t e : TypeId) (a : Option Addr) (l c : Nat) (h : P.underlying t = some (.slice e)) : (Op.equal t (.slice a l c) (.slice none 0 0)).run P w = .ok a.isNone w := run_eqnil w 9999 t e a l c h
section
variable {P : Program} {k : Nat} {cx : Cx k} {ops : Array Oper} {Q : Exit → St → Prop} {K : St → Prop} {l2 : List Oper} {rest : List Oper} {ty : TypeId} {pos : String} {af : Array Edge} {d nn m n g f i : Nat} {vars : List (Nat × AV)} {objs objs' : List AO} {listed : List Bool} {r : List Nat}
theorem w_eqnil [Zs] {T e T' : TypeId} {sz sz' : Nat} {x y : Operand} {cs : List Dat} (hx : (⟨nn, vars, objs⟩ : St).ev x = .ro (.sl sz cs)) (hy : (⟨nn, vars, objs⟩ : St).ev y = .val (.slice none 0 0)) (ht : SlT P T e sz') (hd : Nat.blt d nn = true)
    (hk : ∀ b : Bool, (b = true → cs = []) → aL P cx ops Q rest ⟨nn, (d, .val (.bool b)) :: vars, objs⟩) : aL P cx ops Q (⟨some d, .binOp .eql T x y T', ty, pos, af, none⟩ :: rest) ⟨nn, vars, objs⟩ := by
  intro a w hr
  obtain ⟨ρ, hb, hf, h0⟩ := hr.base
  have hg := hb.ev x
  rw [hx] at hg
  have hrd := hg.ro_inv
  have hey := hb.evv hy
  have key : ∃ b : Bool, (b = true → cs = []) ∧ (execOp a.eval ⟨some d, .binOp .eql T x y T', ty, pos, af, none⟩).run P w = .ok (.value (.bool b)) w := by
    have hgd : ∀ (ad : Option Addr) (n' c : Nat), (eqGuard .eql T x y (.slice ad n' c) (.slice none 0 0)).run P w = .ok () w := fun ad n' c => rfl
    have hbin : ∀ (ad : Option Addr) (n' c : Nat), (binOp .eql T (.slice ad n' c) (.slice none 0 0)).run P w = .ok (.bool ad.isNone) w := fun ad n' c => by
      show (do pure (Value.bool (← Op.equal T (.slice ad n' c) (.slice none 0 0)))).run P w = _
      rw [Sem.run_bind, run_eqnil' w T e ad n' c ht.1]
      rfl
    generalize hu : a.eval x = u at hrd
    cases hrd with
    | nil =>
      refine ⟨true, fun _ => rfl, ?_⟩
      simp only [execOp, hu, hey, Sem.run_bind, hgd, Result.andThen_ok, hbin, Sem.run_pure]
      rfl
    | sl ad n' cap _ _ us hn hsp hM hc hr' =>
      refine ⟨false, fun h => (by cases h), ?_⟩
      simp only [execOp, hu, hey, Sem.run_bind, hgd, Result.andThen_ok, hbin, Sem.run_pure]
      rfl
  obtain ⟨b, hb1, hrun⟩ := key
  unfold wpList
  rw [if_pos (by simp [Region.wanted])]
  left
  unfold Oper.wp
  rw [hrun]
  exact hk b hb1 _ _ ⟨⟨ρ, hb.put hd (.val _), hf, h0⟩, hr.same⟩
theorem w_lit_e [Zs] {T e : TypeId} {z : Value} {sz by' : Nat} (hsz : 0 < sz) (ht : SlT P T e sz) (hmk : MkT P e z sz by') (ho : objs ++ [.row e sz []] = objs') (hm : objs.length = m) (hd : Nat.blt d nn = true)
    (hk : aL P cx ops Q rest ⟨nn, (d, .own m) :: vars, objs'⟩) : aL P cx ops Q (⟨some d, .buildSlice T 0 #[], ty, pos, af, none⟩ :: rest) ⟨nn, vars, objs⟩ := by
  subst ho; subst hm
  exact l_lit (xs := []) rfl rfl ht hmk hsz (by simp) rfl hd hk
end
end Go.Proofs.Ytdbngpkbamhbeaa
set_option linter.unusedSimpArgs false
set_option linter.unusedVariables false
set_option linter.unusedSectionVars false
namespace Go.Proofs.Ytdbngpkbamhbeaa
open Go.RowKit
theorem w_cutM {P : Program} {k : Nat} {cx : Cx k} [Zs] {x : Code} {Q : Exit → St → Prop} {n : Nat} {vars : List (Nat × AV)} {objs : List AO} {X : Type} (keep : List Nat) {vars0 : List (Nat × AV)} (hv : keepv keep vars = vars0) (mv : X → List (Nat × AV)) (ob : X → List AO) (I : X → Prop)
    (h1 : aC P cx x (thenA (fun st => ∃ z σ, I z ∧ st.le ⟨n, mv z ++ vars0, ob z⟩ σ ∧ fixB k σ = true) Q) ⟨n, vars, objs⟩) (h2 : ∀ z, I z → Q .normal ⟨n, mv z ++ vars0, ob z⟩) : aC P cx x Q ⟨n, vars, objs⟩ := by
  have _ := hv
  intro a w hr
  refine wp_mono (h1 a w hr) ?_
  rintro e a' w' ⟨st', q, r⟩
  cases e with
  | normal =>
    obtain ⟨z, σ, hi, hle, hσ⟩ := q
    exact ⟨_, h2 z hi, r.le hle hσ⟩
  | exit id => exact ⟨st', q, r⟩
  | goto l => exact ⟨st', q, r⟩
  | ret => exact ⟨st', q, r⟩
  | panic ch => exact ⟨st', q, r⟩
  | outgrown => exact ⟨st', q, r⟩
end Go.Proofs.Ytdbngpkbamhbeaa
set_option linter.unusedSimpArgs false
set_option linter.unusedVariables false
set_option linter.unusedSectionVars false
namespace Go.Proofs.Ytdbngpkbamhbeaa
open Go.RowKit
/-- A region that draws its order, nothing set aside. -/
theorem a_holdX [Zs] {P : Program} {k : Nat} {cx : Cx k} {K : St → Prop} {st : St} {id : Nat} {l : List Oper} {n : Nat} {Q : Exit → St → Prop} (hm : P.follows .mixedOrders = true) (hn : l.length = n) (h : xH P cx l.toArray K (fun _ => True) n (List.replicate n false) st) : aC P cx (.region id l.toArray true) (thenA K Q) st := by
  subst hn
  refine a_mono (Q := ThenK K) ?_ fun e st h => by cases e <;> first | exact h | exact h.elim
  intro a w hr
  have hr2 := hr.mono (w' := { w with drawn := w.drawn + 1 }) ⟨rfl, rfl, rfl, Nat.le_refl _, fun _ _ => rfl⟩
  refine wp_region_held (S := fun _ => True) hm ?_
  have := h (fun _ _ => trivial) _ _ hr2
  simpa using this
end Go.Proofs.Ytdbngpkbamhbeaa
set_option linter.unusedSimpArgs false
set_option linter.unusedVariables false
set_option linter.unusedSectionVars false
namespace Go.Proofs.Ytdbngpkbamhbeaa
mutual
/-- It hangs on nothing of the call's own. -/
def roA : AV → Bool
  | .val _ => true
  | .ro _ => true
  | .rpt _ _ => true
  | .agg l => roL l
  | .tup l => roL l
  | .clo _ l => roL l
  | _ => false
def roL : List AV → Bool
  | [] => true
  | a :: l => roA a && roL l
end
mutual
theorem roA_fr : ∀ (a : AV) (id : Nat) (d : Dat), roA a = true → a.fr id d = a
  | .val _, _, _, _ => rfl
  | .ro _, _, _, _ => rfl
  | .rpt _ _, _, _, _ => rfl
  | .agg l, id, d, h => by
    show AV.agg (AV.frl id d l) = _
    rw [roL_frl l id d (by unfold roA at h; exact h)]
  | .tup l, id, d, h => by
    show AV.tup (AV.frl id d l) = _
    rw [roL_frl l id d (by unfold roA at h; exact h)]
  | .clo f l, id, d, h => by
    show AV.clo f (AV.frl id d l) = _
    rw [roL_frl l id d (by unfold roA at h; exact h)]
  | .own _, _, _, h => by unfold roA at h; cases h
  | .ptr _ _, _, _, h => by unfold roA at h; cases h
  | .ept _ _, _, _, h => by unfold roA at h; cases h
  | .any, _, _, h => by unfold roA at h; cases h
theorem roL_frl : ∀ (l : List AV) (id : Nat) (d : Dat), roL l = true → AV.frl id d l = l
  | [], _, _, _ => rfl
  | a :: l, id, d, h => by
    unfold roL at h
    obtain ⟨h1, h2⟩ := Bool.and_eq_true _ _ ▸ h
    show a.fr id d :: AV.frl id d l = _
    rw [roA_fr a id d h1, roL_frl l id d h2]
end
/-- What is known of a function, as a reading. -/
def fnd (cl : AV) : FnD := ⟨fun w M v => Gm [] w M cl v ∧ v.oneCell' = true, fun _ _ _ h => h.2, fun _ _ _ _ _ hs hM h => ⟨h.1.mono hs hM fun _ _ h => h, h.2⟩⟩
end Go.Proofs.Ytdbngpkbamhbeaa
set_option linter.unusedSimpArgs false
set_option linter.unusedVariables false
set_option linter.unusedSectionVars false
namespace Go.Proofs.Ytdbngpkbamhbeaa
open Go.RowKit
section
variable {P : Program} {k : Nat} {cx : Cx k} {ops : Array Oper} {st : St} {K : St → Prop} {S : World → Prop}
theorem a_holdN [Zs] {id : Nat} {l : List Oper} {n : Nat} {Q : Exit → St → Prop} (hm : P.follows .mixedOrders = true) (hn : l.length = n) (h : xH P cx l.toArray (fun st => Q .normal st) (fun _ => True) n (List.replicate n false) st) : aC P cx (.region id l.toArray true) Q st :=
  a_mono (a_holdX (Q := Q) hm hn h) fun e st h => by cases e <;> exact h
end
end Go.Proofs.Ytdbngpkbamhbeaa
