import Derived.Test.YtdbngpkbamhbeaaEngZd
set_option linter.unusedSimpArgs false
set_option linter.unusedVariables false
set_option linter.unusedSectionVars false
namespace Go.Proofs.Ytdbngpkbamhbeaa
open Go.RowKit
theorem run_eqnil {P : Program} (w : World) (d : Nat) (t e : TypeId) (a : Option Addr) (l c : Nat) (h : P.underlying t = some (.slice e)) : (Op.equalIn (d + 1) t (.slice a l c) (.slice none 0 0)).run P w = .ok a.isNone w := by
  cases a <;> simp [Op.equalIn, run_underlying h]
theorem run_eqnil' {P : Program} (w : World) (t e : TypeId) (a : Option Addr) (l c : Nat) (h : P.underlying t = some (.slice e)) : (Op.equal t (.slice a l c) (.slice none 0 0)).run P w = .ok a.isNone w := run_eqnil w 9999 t e a l c h
section
variable {P : Program} {k : Nat} {cx : Cx k} {ops : Array Oper} {Q : Exit → St → Prop} {st : St} {rest : List Oper} {ty : TypeId} {pos : String} {af : Array Edge}
end
section
variable {P : Program} {k : Nat} {cx : Cx k} {ops : Array Oper} {Q : Exit → St → Prop} {K : St → Prop} {l2 : List Oper} {rest : List Oper} {ty : TypeId} {pos : String} {af : Array Edge} {d nn m n g f i : Nat} {vars : List (Nat × AV)} {objs objs' : List AO} {listed : List Bool} {r : List Nat}
theorem w_eqnil [Zs] {T e T' : TypeId} {sz sz' : Nat} {x y : Operand} {cs : List Dat} (hx : (⟨nn, vars, objs⟩ : St).ev x = .ro (.sl sz cs)) (hy : (⟨nn, vars, objs⟩ : St).ev y = .val (.slice none 0 0)) (ht : SlT P T e sz') (hd : Nat.blt d nn = true)
    (hk : ∀ b : Bool, (b = true → cs = []) → aL P cx ops Q rest ⟨nn, (d, .val (.bool b)) :: vars, objs⟩) : aL P cx ops Q (⟨some d, .binOp .eql T x y T', ty, pos, af, none⟩ :: rest) ⟨nn, vars, objs⟩ := by
  intro a w hr
  obtain ⟨ρ, hb, hf, h0⟩ := hr.base
  have hg := hb.ev x
  rw [hx] at hg
  have hrd := hg.ro_inv
  have hey := hb.evv hy
  have key : ∃ b : Bool, (b = true → cs = []) ∧ (execOp a.eval ⟨some d, .binOp .eql T x y T', ty, pos, af, none⟩).run P w = .ok (.value (.bool b)) w := by
    have hgd : ∀ (ad : Option Addr) (n' c : Nat), (eqGuard .eql T x y (.slice ad n' c) (.slice none 0 0)).run P w = .ok () w := fun ad n' c => rfl
    have hbin : ∀ (ad : Option Addr) (n' c : Nat), (binOp .eql T (.slice ad n' c) (.slice none 0 0)).run P w = .ok (.bool ad.isNone) w := fun ad n' c => by
      show (do pure (Value.bool (← Op.equal T (.slice ad n' c) (.slice none 0 0)))).run P w = _
      rw [Sem.run_bind, run_eqnil' w T e ad n' c ht.1]
      rfl
    generalize hu : a.eval x = u at hrd
    cases hrd with
    | nil =>
      refine ⟨true, fun _ => rfl, ?_⟩
      simp only [execOp, hu, hey, Sem.run_bind, hgd, Result.andThen_ok, hbin, Sem.run_pure]
      rfl
    | sl ad n' cap _ _ us hn hsp hM hc hr' =>
      refine ⟨false, fun h => (by cases h), ?_⟩
      simp only [execOp, hu, hey, Sem.run_bind, hgd, Result.andThen_ok, hbin, Sem.run_pure]
      rfl
  obtain ⟨b, hb1, hrun⟩ := key
  unfold wpList
  rw [if_pos (by simp [Region.wanted])]
  left
  unfold Oper.wp
  rw [hrun]
  exact hk b hb1 _ _ ⟨⟨ρ, hb.put hd (.val _), hf, h0⟩, hr.same⟩
theorem w_lit_e [Zs] {T e : TypeId} {z : Value} {sz by' : Nat} (hsz : 0 < sz) (ht : SlT P T e sz) (hmk : MkT P e z sz by') (ho : objs ++ [.row e sz []] = objs') (hm : objs.length = m) (hd : Nat.blt d nn = true)
    (hk : aL P cx ops Q rest ⟨nn, (d, .own m) :: vars, objs'⟩) : aL P cx ops Q (⟨some d, .buildSlice T 0 #[], ty, pos, af, none⟩ :: rest) ⟨nn, vars, objs⟩ := by
  subst ho; subst hm
  exact l_lit (xs := []) rfl rfl ht hmk hsz (by simp) rfl hd hk
end
end Go.Proofs.Ytdbngpkbamhbeaa
