import Derived.Test.YtdbngpkbamhbeaaEngZd
import Derived.Test.YtdbngpkbamhbeaaEngT
import Derived.Laws.Slices
set_option linter.unusedSimpArgs false
set_option linter.unusedVariables false
set_option linter.unusedSectionVars false
namespace Go.Proofs.Ytdbngpkbamhbeaa
open Go.RowKit
theorem run_eqnil {P : Program} (w : World) (d : Nat) (t e : TypeId) (a : Option Addr) (l c : Nat) (h : P.underlying t = some (.slice e)) : (Op.equalIn (d + 1) t (.slice a l c) (.slice none 0 0)).run P w = .ok a.isNone w := by
  cases a <;> simp [Op.equalIn, run_underlying h]
theorem run_eqnil' {P : Program} (w : World) (t e : TypeId) (a : Option Addr) (l c : Nat) (h : P.underlying t = some (.slice e)) : (Op.equal t (.slice a l c) (.slice none 0 0)).run P w = .ok a.isNone w := run_eqnil w 9999 t e a l c h
section
variable {P : Program} {k : Nat} {cx : Cx k} {ops : Array Oper} {Q : Exit → St → Prop} {K : St → Prop} {l2 : List Oper} {rest : List Oper} {ty : TypeId} {pos : String} {af : Array Edge} {d nn m n g f i : Nat} {vars : List (Nat × AV)} {objs objs' : List AO} {listed : List Bool} {r : List Nat}
theorem w_eqnil [Zs] {T e T' : TypeId} {sz sz' : Nat} {x y : Operand} {cs : List Dat} (hx : (⟨nn, vars, objs⟩ : St).ev x = .ro (.sl sz cs)) (hy : (⟨nn, vars, objs⟩ : St).ev y = .val (.slice none 0 0)) (ht : SlT P T e sz') (hd : Nat.blt d nn = true)
    (hk : ∀ b : Bool, (b = true → cs = []) → aL P cx ops Q rest ⟨nn, (d, .val (.bool b)) :: vars, objs⟩) : aL P cx ops Q (⟨some d, .binOp .eql T x y T', ty, pos, af, none⟩ :: rest) ⟨nn, vars, objs⟩ := by
  intro a w hr
  obtain ⟨ρ, hb, hf, h0⟩ := hr.base
  have hg := hb.ev x
  rw [hx] at hg
  have hrd := hg.ro_inv
  have hey := hb.evv hy
  have key : ∃ b : Bool, (b = true → cs = []) ∧ (execOp a.eval ⟨some d, .binOp .eql T x y T', ty, pos, af, none⟩).run P w = .ok (.value (.bool b)) w := by
    have hgd : ∀ (ad : Option Addr) (n' c : Nat), (eqGuard .eql T x y (.slice ad n' c) (.slice none 0 0)).run P w = .ok () w := fun ad n' c => rfl
    have hbin : ∀ (ad : Option Addr) (n' c : Nat), (binOp .eql T (.slice ad n' c) (.slice none 0 0)).run P w = .ok (.bool ad.isNone) w := fun ad n' c => by
      show (do pure (Value.bool (← Op.equal T (.slice ad n' c) (.slice none 0 0)))).run P w = _
      rw [Sem.run_bind, run_eqnil' w T e ad n' c ht.1]
      rfl
    generalize hu : a.eval x = u at hrd
    cases hrd with
    | nil =>
      refine ⟨true, fun _ => rfl, ?_⟩
      simp only [execOp, hu, hey, Sem.run_bind, hgd, Result.andThen_ok, hbin, Sem.run_pure]
      rfl
    | sl ad n' cap _ _ us hn hsp hM hc hr' =>
      refine ⟨false, fun h => (by cases h), ?_⟩
      simp only [execOp, hu, hey, Sem.run_bind, hgd, Result.andThen_ok, hbin, Sem.run_pure]
      rfl
  obtain ⟨b, hb1, hrun⟩ := key
  unfold wpList
  rw [if_pos (by simp [Region.wanted])]
  left
  unfold Oper.wp
  rw [hrun]
  exact hk b hb1 _ _ ⟨⟨ρ, hb.put hd (.val _), hf, h0⟩, hr.same⟩
theorem w_lit_e [Zs] {T e : TypeId} {z : Value} {sz by' : Nat} (hsz : 0 < sz) (ht : SlT P T e sz) (hmk : MkT P e z sz by') (ho : objs ++ [.row e sz []] = objs') (hm : objs.length = m) (hd : Nat.blt d nn = true)
    (hk : aL P cx ops Q rest ⟨nn, (d, .own m) :: vars, objs'⟩) : aL P cx ops Q (⟨some d, .buildSlice T 0 #[], ty, pos, af, none⟩ :: rest) ⟨nn, vars, objs⟩ := by
  subst ho; subst hm
  exact l_lit (xs := []) rfl rfl ht hmk hsz (by simp) rfl hd hk
theorem w_ap_natsR [Zs] {T e : TypeId} {x y : Operand} {id : Nat} {l r : List Nat} (hx : (⟨nn, vars, objs⟩ : St).ev x = .own id) (hob : objs[id]? = some (.row e 1 (intc (nl l)))) (hy : (⟨nn, vars, objs⟩ : St).ev y = ints (nl r))
    (ht : SlT P T e 1) (hmk : MkT P e (.int .i64 0) 1 8) (hbig : l.length + r.length ≤ 1000000000) (ho : objs.set id .gone ++ [.row e 1 (intc (nl (l ++ r)))] = objs') (hm : objs.length = m) (hd : Nat.blt d nn = true)
    (hk : aL P cx ops Q rest ⟨nn, (d, .own m) :: vars, objs'⟩) : aL P cx ops Q (⟨some d, .call ⟨.builtin .append, #[x, y], #[T, T]⟩, ty, pos, af, none⟩ :: rest) ⟨nn, vars, objs⟩ := by
  subst ho; subst hm
  exact l_append (cs := intc (nl l)) (cs2 := intc (nl r)) rfl rfl hx hob (.inl hy) ht hmk rfl (intc_len _) (intc_len _) (by decide) (intc_one _) (by decide) (by rw [nl_len, nl_len]; omega) hd (by rw [intc_app, nl_app]; exact hk)
end
end Go.Proofs.Ytdbngpkbamhbeaa
set_option linter.unusedSimpArgs false
set_option linter.unusedVariables false
set_option linter.unusedSectionVars false
namespace Go.Proofs.Ytdbngpkbamhbeaa
open Go.RowKit
section
variable {P : Program} {st : St} {d : Option Tmp} {ty : TypeId} {pos : String} {af : Array Edge} {g : Option (Nat × Bool)}
theorem slT_elem {P : Program} {T e : TypeId} {sz : Nat} (ht : SlT P T e sz) : P.elem T = e ∧ P.underlying T = some (.slice (P.elem T)) := by
  have h : P.elem T = e := by unfold Program.elem; rw [ht.1]
  exact ⟨h, by rw [h]; exact ht.1⟩
end
theorem w_cutM {P : Program} {k : Nat} {cx : Cx k} [Zs] {x : Code} {Q : Exit → St → Prop} {n : Nat} {vars : List (Nat × AV)} {objs : List AO} {X : Type} (keep : List Nat) {vars0 : List (Nat × AV)} (hv : keepv keep vars = vars0) (mv : X → List (Nat × AV)) (ob : X → List AO) (I : X → Prop)
    (h1 : aC P cx x (thenA (fun st => ∃ z σ, I z ∧ st.le ⟨n, mv z ++ vars0, ob z⟩ σ ∧ fixB k σ = true) Q) ⟨n, vars, objs⟩) (h2 : ∀ z, I z → Q .normal ⟨n, mv z ++ vars0, ob z⟩) : aC P cx x Q ⟨n, vars, objs⟩ := by
  have _ := hv
  intro a w hr
  refine wp_mono (h1 a w hr) ?_
  rintro e a' w' ⟨st', q, r⟩
  cases e with
  | normal =>
    obtain ⟨z, σ, hi, hle, hσ⟩ := q
    exact ⟨_, h2 z hi, r.le hle hσ⟩
  | exit id => exact ⟨st', q, r⟩
  | goto l => exact ⟨st', q, r⟩
  | ret => exact ⟨st', q, r⟩
  | panic ch => exact ⟨st', q, r⟩
  | outgrown => exact ⟨st', q, r⟩
end Go.Proofs.Ytdbngpkbamhbeaa
set_option linter.unusedSimpArgs false
set_option linter.unusedVariables false
set_option linter.unusedSectionVars false
namespace Go.Proofs.Ytdbngpkbamhbeaa
open Go.RowKit
section
variable {P : Program} {st : St} {d : Option Tmp} {ty : TypeId} {pos : String} {af : Array Edge} {g : Option (Nat × Bool)}
theorem P_sliceLs {x lo : Operand} {T e : TypeId} {cs : List Dat} {sz m : Nat} {i : Int} {k : Nat} (hx : st.ev x = .ro (.sl sz cs)) (hcs : cs.length = m * sz) (hsz : 0 < sz) (hi : st.ev lo = .val (.int .i64 i)) (hk : i = (k : Int)) (ht : SlT P T e sz) (h : k ≤ m) :
    POp P ⟨d, .slice T x (some lo) none none, ty, pos, af, g⟩ st (.ro (.sl sz (cs.drop (k * sz)))) :=
  fun _ ρ w a hr => by
    have hg := hr.ev x
    rw [hx] at hg
    have hrd : Rd w (Ban ρ st.objs) (a.eval x) (.sl sz cs) := hg.ro_inv
    obtain ⟨h1, h2⟩ := slT_elem ht
    obtain ⟨u, hu⟩ : ∃ u, a.eval x = u := ⟨_, rfl⟩
    rw [hu] at hrd
    subst hk
    cases hrd with
    | nil _ =>
      rw [List.length_nil] at hcs
      have hm0 : m = 0 := (Nat.mul_eq_zero.1 hcs.symm).resolve_right (by omega)
      have hk0 : k = 0 := by omega
      subst hk0
      refine ⟨.slice none 0 0, .ro _ _ (by rw [List.drop_nil]; exact .nil sz), fun w1 => ?_⟩
      have hz : (sizeOf (P.elem T)).run P w1 = .ok sz w1 := by rw [h1]; exact ht.2.run w1
      simp only [execOp, hu, hr.evv hi, Option.map, run_sliceAt_slice w1 T _ _ _ _ h2, Sem.run_bind, run_slice_l w1 T none 0 0 h2 .i64 ((0 : Nat) : Int) (by omega) (by omega), hz, Result.andThen_ok, Sem.run_pure]
      rfl
    | sl ad n' cap _ _ us hn' hsp hM hc hd =>
      have hnn : m = n' := Nat.eq_of_mul_eq_mul_right hsz (hcs.symm.trans hn')
      subst hnn
      have hmk : (m - k) * sz = m * sz - k * sz := Nat.sub_mul m k sz
      have hks : k * sz ≤ m * sz := Nat.mul_le_mul_right sz h
      have hz : ∀ w1, (sizeOf (P.elem T)).run P w1 = .ok sz w1 := fun w1 => by rw [h1]; exact ht.2.run w1
      refine ⟨.slice (if cap = k then some ad else some (ad.add (k * sz))) (m - k) (cap - k), .ro _ _ ?_, fun w1 => ?_⟩
      · by_cases hck : cap = k
        · have hkm : k = m := by omega
          rw [if_pos hck, List.drop_eq_nil_of_le (by rw [hcs, hkm]; exact Nat.le_refl _), show m - k = 0 by omega]
          exact .sl ad 0 _ sz [] us (by simp) (Nat.zero_le _) (fun k hk => absurd hk (Nat.not_lt_zero k)) (fun k d hk => by simp at hk) (fun k d hk => by simp at hk)
        · rw [if_neg hck]
          have hb' : (ad.add (k * sz)).block = ad.block := by unfold Addr.add; split <;> rfl
          refine .sl (ad.add (k * sz)) (m - k) (cap - k) sz _ (fun j => us (k * sz + j)) (by rw [List.length_drop]; omega) (by omega) (fun j hj => ?_) (fun j dt hj => ?_) (fun j dt hj => ?_)
          · rw [hb']
            rw [List.length_drop] at hj
            exact hM (k * sz + j) (by omega)
          · rw [List.getElem?_drop] at hj
            rw [add_add']
            exact hc (k * sz + j) dt hj
          · rw [List.getElem?_drop] at hj
            exact hd (k * sz + j) dt hj
      · simp only [execOp, hu, hr.evv hi, Option.map, run_sliceAt_slice w1 T _ _ _ _ h2, Sem.run_bind, run_slice_l w1 T (some ad) m cap h2 .i64 ((k : Nat) : Int) (by omega) (by omega), hz, Result.andThen_ok, Sem.run_pure, sliced]
        simp
end
/-- A region that draws its order, nothing set aside. -/
theorem a_holdX [Zs] {P : Program} {k : Nat} {cx : Cx k} {K : St → Prop} {st : St} {id : Nat} {l : List Oper} {n : Nat} {Q : Exit → St → Prop} (hm : P.follows .mixedOrders = true) (hn : l.length = n) (h : xH P cx l.toArray K (fun _ => True) n (List.replicate n false) st) : aC P cx (.region id l.toArray true) (thenA K Q) st := by
  subst hn
  refine a_mono (Q := ThenK K) ?_ fun e st h => by cases e <;> first | exact h | exact h.elim
  intro a w hr
  have hr2 := hr.mono (w' := { w with drawn := w.drawn + 1 }) ⟨rfl, rfl, rfl, Nat.le_refl _, fun _ _ => rfl⟩
  refine wp_region_held (S := fun _ => True) hm ?_
  have := h (fun _ _ => trivial) _ _ hr2
  simpa using this
end Go.Proofs.Ytdbngpkbamhbeaa
set_option linter.unusedSimpArgs false
set_option linter.unusedVariables false
set_option linter.unusedSectionVars false
namespace Go.Proofs.Ytdbngpkbamhbeaa
mutual
/-- It hangs on nothing of the call's own. -/
def roA : AV → Bool
  | .val _ => true
  | .ro _ => true
  | .rpt _ _ => true
  | .agg l => roL l
  | .tup l => roL l
  | .clo _ l => roL l
  | _ => false
def roL : List AV → Bool
  | [] => true
  | a :: l => roA a && roL l
end
mutual
theorem roA_fr : ∀ (a : AV) (id : Nat) (d : Dat), roA a = true → a.fr id d = a
  | .val _, _, _, _ => rfl
  | .ro _, _, _, _ => rfl
  | .rpt _ _, _, _, _ => rfl
  | .agg l, id, d, h => by
    show AV.agg (AV.frl id d l) = _
    rw [roL_frl l id d (by unfold roA at h; exact h)]
  | .tup l, id, d, h => by
    show AV.tup (AV.frl id d l) = _
    rw [roL_frl l id d (by unfold roA at h; exact h)]
  | .clo f l, id, d, h => by
    show AV.clo f (AV.frl id d l) = _
    rw [roL_frl l id d (by unfold roA at h; exact h)]
  | .own _, _, _, h => by unfold roA at h; cases h
  | .ptr _ _, _, _, h => by unfold roA at h; cases h
  | .ept _ _, _, _, h => by unfold roA at h; cases h
  | .any, _, _, h => by unfold roA at h; cases h
theorem roL_frl : ∀ (l : List AV) (id : Nat) (d : Dat), roL l = true → AV.frl id d l = l
  | [], _, _, _ => rfl
  | a :: l, id, d, h => by
    unfold roL at h
    obtain ⟨h1, h2⟩ := Bool.and_eq_true _ _ ▸ h
    show a.fr id d :: AV.frl id d l = _
    rw [roA_fr a id d h1, roL_frl l id d h2]
end
/-- What is known of a function, as a reading. -/
def fnd (cl : AV) : FnD := ⟨fun w M v => Gm [] w M cl v ∧ v.oneCell' = true, fun _ _ _ h => h.2, fun _ _ _ _ _ hs hM h => ⟨h.1.mono hs hM fun _ _ h => h, h.2⟩⟩
theorem Rd.fn_inv {w : World} {M : Nat → Prop} {v : Value} {d : Dat} (h : Rd w M v d) {F : FnD} (e : d = .fn F) : F.p w M v := by
  cases h with
  | fn F' _ hp => cases e; exact hp
  | val => cases e
  | nil => cases e
  | sl => cases e
end Go.Proofs.Ytdbngpkbamhbeaa
set_option linter.unusedSimpArgs false
set_option linter.unusedVariables false
set_option linter.unusedSectionVars false
namespace Go.Proofs.Ytdbngpkbamhbeaa
open Go.RowKit
section
variable {P : Program} {k : Nat} {cx : Cx k} {ops : Array Oper} {st : St} {K : St → Prop} {S : World → Prop}
theorem a_holdN [Zs] {id : Nat} {l : List Oper} {n : Nat} {Q : Exit → St → Prop} (hm : P.follows .mixedOrders = true) (hn : l.length = n) (h : xH P cx l.toArray (fun st => Q .normal st) (fun _ => True) n (List.replicate n false) st) : aC P cx (.region id l.toArray true) Q st :=
  a_mono (a_holdX (Q := Q) hm hn h) fun e st h => by cases e <;> exact h
end
end Go.Proofs.Ytdbngpkbamhbeaa
