import Derived.Test.YtgojkabjgagjcaaEngZd
import Derived.Test.YtgojkabjgagjcaaEngT
import Derived.Test.YtgojkabjgagjcaaEngA
import Derived.Laws.Slices
set_option linter.unusedSimpArgs false
set_option linter.unusedVariables false
set_option linter.unusedSectionVars false
namespace Go.Proofs.Ytgojkabjgagjcaa
open Go.RowKit
theorem run_eqnil {P : Program} (w : World) (d : Nat) (t e : TypeId) (a : Option Addr) (l c : Nat) (h : P.underlying t = some (.slice e)) : (Op.equalIn (d + 1) t (.slice a l c) (.slice none 0 0)).run P w = .ok a.isNone w := by
  cases a <;> simp [Op.equalIn, run_underlying h]
theorem run_eqnil' {P : Program} (w : World) (t e : TypeId) (a : Option Addr) (l c : Nat) (h : P.underlying t = some (.slice e)) : (Op.equal t (.slice a l c) (.slice none 0 0)).run P w = .ok a.isNone w := run_eqnil w 9999 t e a l c h
section
variable {P : Program} {k : Nat} {cx : Cx k} {ops : Array Oper} {Q : Exit → St → Prop} {K : St → Prop} {l2 : List Oper} {rest : List Oper} {ty : TypeId} {pos : String} {af : Array Edge} {d nn m n g f i : Nat} {vars : List (Nat × AV)} {objs objs' : List AO} {listed : List Bool} {r : List Nat}
theorem w_eqnil [Zs] {T e T' : TypeId} {sz sz' : Nat} {x y : Operand} {cs : List Dat} (hx : (⟨nn, vars, objs⟩ : St).ev x = .ro (.sl sz cs)) (hy : (⟨nn, vars, objs⟩ : St).ev y = .val (.slice none 0 0)) (ht : SlT P T e sz') (hd : Nat.blt d nn = true)
    (hk : ∀ b : Bool, (b = true → cs = []) → aL P cx ops Q rest ⟨nn, (d, .val (.bool b)) :: vars, objs⟩) : aL P cx ops Q (⟨some d, .binOp .eql T x y T', ty, pos, af, none⟩ :: rest) ⟨nn, vars, objs⟩ := by
  intro a w hr
  obtain ⟨ρ, hb, hf, h0⟩ := hr.base
  have hg := hb.ev x
  rw [hx] at hg
  have hrd := hg.ro_inv
  have hey := hb.evv hy
  have key : ∃ b : Bool, (b = true → cs = []) ∧ (execOp a.eval ⟨some d, .binOp .eql T x y T', ty, pos, af, none⟩).run P w = .ok (.value (.bool b)) w := by
    have hgd : ∀ (ad : Option Addr) (n' c : Nat), (eqGuard .eql T x y (.slice ad n' c) (.slice none 0 0)).run P w = .ok () w := fun ad n' c => rfl
    have hbin : ∀ (ad : Option Addr) (n' c : Nat), (binOp .eql T (.slice ad n' c) (.slice none 0 0)).run P w = .ok (.bool ad.isNone) w := fun ad n' c => by
      show (do pure (Value.bool (← Op.equal T (.slice ad n' c) (.slice none 0 0)))).run P w = _
      rw [Sem.run_bind, run_eqnil' w T e ad n' c ht.1]
      rfl
    generalize hu : a.eval x = u at hrd
    cases hrd with
    | nil =>
      refine ⟨true, fun _ => rfl, ?_⟩
      simp only [execOp, hu, hey, Sem.run_bind, hgd, Result.andThen_ok, hbin, Sem.run_pure]
      rfl
    | sl ad n' cap _ _ us hn hsp hM hc hr' =>
      refine ⟨false, fun h => (by cases h), ?_⟩
      simp only [execOp, hu, hey, Sem.run_bind, hgd, Result.andThen_ok, hbin, Sem.run_pure]
      rfl
  obtain ⟨b, hb1, hrun⟩ := key
  unfold wpList
  rw [if_pos (by simp [Region.wanted])]
  left
  unfold Oper.wp
  rw [hrun]
  exact hk b hb1 _ _ ⟨⟨ρ, hb.put hd (.val _), hf, h0⟩, hr.same⟩
theorem w_lit_e [Zs] {T e : TypeId} {z : Value} {sz by' : Nat} (hsz : 0 < sz) (ht : SlT P T e sz) (hmk : MkT P e z sz by') (ho : objs ++ [.row e sz []] = objs') (hm : objs.length = m) (hd : Nat.blt d nn = true)
    (hk : aL P cx ops Q rest ⟨nn, (d, .own m) :: vars, objs'⟩) : aL P cx ops Q (⟨some d, .buildSlice T 0 #[], ty, pos, af, none⟩ :: rest) ⟨nn, vars, objs⟩ := by
  subst ho; subst hm
  exact l_lit (xs := []) rfl rfl ht hmk hsz (by simp) rfl hd hk
end
end Go.Proofs.Ytgojkabjgagjcaa
set_option linter.unusedSimpArgs false
set_option linter.unusedVariables false
set_option linter.unusedSectionVars false
namespace Go.Proofs.Ytgojkabjgagjcaa
mutual
/-- It hangs on nothing of the call's own. -/
def roA : AV → Bool
  | .val _ => true
  | .ro _ => true
  | .rpt _ _ => true
  | .agg l => roL l
  | .tup l => roL l
  | .clo _ l => roL l
  | _ => false
def roL : List AV → Bool
  | [] => true
  | a :: l => roA a && roL l
end
theorem roL_get : ∀ {l : List AV} {i : Nat} {a : AV}, roL l = true → l[i]? = some a → roA a = true
  | [], i, a, _, h => by simp at h
  | b :: l, 0, a, hl, h => by
    simp only [List.getElem?_cons_zero, Option.some.injEq] at h
    subst h
    unfold roL at hl
    exact (Bool.and_eq_true _ _ ▸ hl).1
  | b :: l, i + 1, a, hl, h => by
    unfold roL at hl
    exact roL_get (Bool.and_eq_true _ _ ▸ hl).2 (by simpa using h)
theorem roA_gm {ρ ρ' : Ids} {w : World} {M : Nat → Prop} {av : AV} {v : Value} (h : Gm ρ w M av v) : roA av = true → Gm ρ' w M av v := by
  induction h with
  | val v => exact fun _ => .val v
  | ro d v hr => exact fun _ => .ro d v hr
  | own id v l hv h1 => intro h; unfold roA at h; cases h
  | ptr id off b l hv => intro h; unfold roA at h; cases h
  | ept id k b n cap l hv => intro h; unfold roA at h; cases h
  | rpt a cs off us hsp hMk hc hr => exact fun _ => .rpt a cs off us hsp hMk hc hr
  | agg l vs hl _ ih => exact fun h => .agg l vs hl fun i av v h1 h2 => ih i av v h1 h2 (roL_get (by unfold roA at h; exact h) h1)
  | tup l vs hl _ ih => exact fun h => .tup l vs hl fun i av v h1 h2 => ih i av v h1 h2 (roL_get (by unfold roA at h; exact h) h1)
  | clo f l vs hl _ ih => exact fun h => .clo f l vs hl fun i av v h1 h2 => ih i av v h1 h2 (roL_get (by unfold roA at h; exact h) h1)
  | any v => intro h; unfold roA at h; cases h
mutual
theorem roA_fr : ∀ (a : AV) (id : Nat) (d : Dat), roA a = true → a.fr id d = a
  | .val _, _, _, _ => rfl
  | .ro _, _, _, _ => rfl
  | .rpt _ _, _, _, _ => rfl
  | .agg l, id, d, h => by
    show AV.agg (AV.frl id d l) = _
    rw [roL_frl l id d (by unfold roA at h; exact h)]
  | .tup l, id, d, h => by
    show AV.tup (AV.frl id d l) = _
    rw [roL_frl l id d (by unfold roA at h; exact h)]
  | .clo f l, id, d, h => by
    show AV.clo f (AV.frl id d l) = _
    rw [roL_frl l id d (by unfold roA at h; exact h)]
  | .own _, _, _, h => by unfold roA at h; cases h
  | .ptr _ _, _, _, h => by unfold roA at h; cases h
  | .ept _ _, _, _, h => by unfold roA at h; cases h
  | .any, _, _, h => by unfold roA at h; cases h
theorem roL_frl : ∀ (l : List AV) (id : Nat) (d : Dat), roL l = true → AV.frl id d l = l
  | [], _, _, _ => rfl
  | a :: l, id, d, h => by
    unfold roL at h
    obtain ⟨h1, h2⟩ := Bool.and_eq_true _ _ ▸ h
    show a.fr id d :: AV.frl id d l = _
    rw [roA_fr a id d h1, roL_frl l id d h2]
end
/-- What is known of a function, as a reading. -/
def fnd (cl : AV) : FnD := ⟨fun w M v => Gm [] w M cl v ∧ v.oneCell' = true, fun _ _ _ h => h.2, fun _ _ _ _ _ hs hM h => ⟨h.1.mono hs hM fun _ _ h => h, h.2⟩⟩
end Go.Proofs.Ytgojkabjgagjcaa
set_option linter.unusedSimpArgs false
set_option linter.unusedVariables false
set_option linter.unusedSectionVars false
namespace Go.Proofs.Ytgojkabjgagjcaa
open Go.RowKit
section
variable {P : Program} {ops : Array Oper} {md : Region.Mode} {C S : World → Prop}
def sinkG (md : Region.Mode) (ops : Array Oper) (n : Nat) (L0 fin : Array Bool) : Bool :=
  (List.range ops.size).all fun i => !fin.getD i false || L0.getD i false || (List.range ops.size).any fun j => decide (i < j) && (decide (j = n) || (fin.getD j false && !L0.getD j false)) && Region.waitsFor md ops j i
def chainG (md : Region.Mode) (ops : Array Oper) (n : Nat) (fin : Array Bool) : Bool :=
  (List.range ops.size).all fun t => fin.getD t false || decide (t = n) || (List.range ops.size).any fun j => !fin.getD j false && Region.waitsFor md ops t j
structure HInv (md : Region.Mode) (ops : Array Oper) (L0 fin listed : Array Bool) : Prop where
  size : listed.size = ops.size
  closed : ∀ j oj, ops[j]? = some oj → listed.getD j false = true → ∀ e ∈ oj.after, Region.binds md e = true → listed.getD e.on false = true
  up : ∀ i, L0.getD i false = true → listed.getD i false = true
  sub : ∀ i, listed.getD i false = true → fin.getD i false = true
theorem HInv.set {i : Nat} {L0 fin listed : Array Bool} (inv : HInv md ops L0 fin listed) (hi : i ∈ Region.ready md ops listed) (hf : fin.getD i false = true) : HInv md ops L0 fin (listed.setIfInBounds i true) := by
  obtain ⟨_, oi, hoi, hall⟩ := mem_ready.1 hi
  have his : i < listed.size := by rw [inv.size]; exact (Array.getElem?_eq_some_iff.1 hoi).1
  have hset : ∀ j, listed.getD j false = true → (listed.setIfInBounds i true).getD j false = true := fun j hj => by
    by_cases hij : i = j
    · subst hij; simp [his]
    · rw [getD_set_ne false hij]; exact hj
  refine ⟨by simp [inv.size], fun j oj hj hl e he hb => ?_, fun j hj => hset j (inv.up j hj), fun j hj => ?_⟩
  · by_cases hij : i = j
    · subst hij
      have : oj = oi := Option.some.inj (hj.symm.trans hoi)
      subst this
      exact hset _ (hall e he hb)
    · rw [getD_set_ne false hij] at hl
      exact hset _ (inv.closed j oj hj hl e he hb)
  · by_cases hij : i = j
    · subst hij; exact hf
    · rw [getD_set_ne false hij] at hj
      exact inv.sub j hj
def anyHd (P : Program) (md : Region.Mode) (ops : Array Oper) (C : World → Prop) (L : Array Bool → Act → Prop) : Nat → Array Bool → Act → Prop
  | 0, listed, a => L listed a
  | f + 1, listed, a => Region.ready md ops listed ≠ [] ∧ ∀ i ∈ Region.ready md ops listed, qOp P ops C i (anyHd P md ops C L f (listed.setIfInBounds i true)) a
/-- What is not of the stage waits. -/
def Waits (md : Region.Mode) (ops : Array Oper) (L0 fin : Array Bool) : Prop := ∀ listed, HInv md ops L0 fin listed → ∀ i, i < ops.size → fin.getD i false = true → listed.getD i true = false → ∀ t, fin.getD t false = false → t ∉ Region.ready md ops listed
def lexTo (md : Region.Mode) (ops : Array Oper) (fin : Array Bool) : List Nat → Array Bool → Bool
  | [], listed => decide (listed = fin) && (Region.ready md ops listed).all fun j => !fin.getD j false
  | k :: is, listed => (Region.ready md ops listed).contains k && Region.free md ops listed k && fin.getD k false && lexTo md ops fin is (listed.setIfInBounds k true)
def invG (md : Region.Mode) (ops : Array Oper) (fin listed : Array Bool) : Bool :=
  decide (listed.size = ops.size) && ((List.range ops.size).all fun j => !listed.getD j false || (match ops[j]? with | some oj => oj.after.all fun e => !Region.binds md e || listed.getD e.on false | none => true)) && (List.range ops.size).all fun t => !listed.getD t false || fin.getD t false
def stgB (ops : Array Oper) (n : Nat) (is : List Nat) (listed fin : Array Bool) : Bool :=
  Region.noSelect ops && sinkG .any ops n listed fin && chainG .any ops n fin && invG .any ops fin listed && lexTo .any ops fin is listed && !fin.getD n false
end
section
variable {P : Program} {k : Nat} {cx : Cx k} {ops : Array Oper} {st : St} {K : St → Prop} {S : World → Prop}
def reB (ops : Array Oper) (is : List Nat) (listed fin : Array Bool) : Bool :=
  Region.noSelect ops && ((List.range ops.size).all fun t => fin.getD t false) && invG .any ops fin listed && lexTo .any ops fin is listed && (Region.ready .any ops fin).isEmpty
end
end Go.Proofs.Ytgojkabjgagjcaa
set_option linter.unusedSimpArgs false
set_option linter.unusedVariables false
set_option linter.unusedSectionVars false
namespace Go.Proofs.Ytgojkabjgagjcaa
theorem AC.vw0 {P : Program} {f : FuncId} {args : List AV} {res res2 : AV} {objs' : List AO} (h : AC P f args [] res objs') (hv : Vw objs' [] res res2) : AC P f args [] res2 [] := by
  obtain ⟨h1, h2⟩ := h
  refine ⟨h1, ?_⟩
  intro _ ρ w vs hg hsz ha
  refine Calls.mono (h2 ρ w vs hg hsz ha) ?_
  rintro e w' ⟨v, ρ', he, hs, hg', hm, hid, hown⟩
  have hρ : ρ = [] := List.eq_nil_of_length_eq_zero (by have := hg.len; simpa using this)
  have ho : VwOs objs' [] [] := VwOs.mk (by decide) trivial
  refine ⟨v, [], he, hs, ?_, ?_, ?_, ?_⟩
  · have := hg'.view ho; exact this
  · have := hv.gm hg' ho v hm; exact this
  · intro id l hl; subst hρ; exact hl
  · rintro b ⟨id, o, l, h1, _⟩ _
    simp at h1
end Go.Proofs.Ytgojkabjgagjcaa
set_option linter.unusedSimpArgs false
set_option linter.unusedVariables false
set_option linter.unusedSectionVars false
set_option maxRecDepth 20000
namespace Go.Proofs.Ytgojkabjgagjcaa
attribute [local irreducible] QOp aL aC qL
theorem PlaceC_ac (l : List Int) (x : Int) (hl : l.length ≤ 9223372036854775807) : AC Try.prog 31 [ints l, .val (.int .i64 x)] [] (.val (.int .i64 (idx (fun y => decide (y = x)) l))) [] := by
  refine AC.mk (n := 19) (fn := Try.f31) Try.func31 (by kernel_rfl) rfl rfl rfl rfl (fun cx => ?_); dsimp only [argv, Nat.reduceAdd]
  (repeat' (first | refine a_seq ?_ | refine a_block ?_ | refine a_region ?_ | refine l_nil ?_ | (apply w_q; (focus (first | exact Q_assign (by conv => lhs; whnf))); (focus exact rfl)))); (try all_goals (try show retA _ _ _ _ _ _ _))
  (refine w_loop (X := Nat) [0, 1] (by simp only [keepv, getv_cons, Nat.reduceEqDiff, ↓reduceIte]; exact rfl) (fun k => [(5, .val (.int .i64 (k : Int)))]) (fun _ => []) (fun k => k ≤ l.length ∧ ∀ j, j < k → (fun i => ¬ l.getD i 0 = x) j) (fun k => l.length - k) (0) ([]) ?_ ?_ rfl ?_ <;> (try dsimp only [List.cons_append, List.nil_append]); (focus exact ⟨Nat.zero_le _, fun j hj => absurd hj (Nat.not_lt_zero _)⟩); (focus (refine St.le_mk rfl (VwOs.mk (by decide) ?_) ?_ <;> (repeat' (first | exact trivial | exact vwR rfl | exact Vw.ro _ | refine ⟨?_, ?_⟩ )))); rintro k ⟨hk, hall⟩; try dsimp only at *)
  have hs1 : k < l.length → l.getD k 0 = x → idx (fun y => decide (y = x)) l = k := fun h1 h2 => idx_some h1 (fun i h3 h4 => decide_eq_false (by rw [← getD_of h3 0]; exact hall i h4)) (decide_eq_true (by rw [← getD_of h1 0]; exact h2))
  have hs2 : k = l.length → idx (fun y => decide (y = x)) l = -1 := fun h1 => idx_none fun i h2 => decide_eq_false (by rw [← getD_of h2 0]; exact hall i (by omega))
  (repeat' (first | refine a_seq ?_ | refine a_block ?_ | refine a_skip ?_ | refine a_ret ?_ | refine a_exit ?_ | refine a_region ?_ | refine l_nil ?_ | (apply w_q; (focus (first | exact Q_move (by conv => lhs; whnf) | exact Q_assign (by conv => lhs; whnf) | exact Q_lss rfl rfl | exact Q_eql rfl rfl | exact Q_add rfl rfl (by omega) | exact Q_ix_ints rfl rfl rfl KSl.h (by omega) | exact Q_ld_ints rfl (by omega) KSc.h | exact Q_len_ints rfl KSl.h)); (focus exact rfl)) | (refine a_cond rfl ?_ ?_ <;> (intro h; (try (have hp := of_decide_eq_true h)); (try (have hp := of_decide_eq_false h)); (try contradiction); (try (exfalso; omega)))))); (try all_goals (try show retA _ _ _ _ _ _ _))
  all_goals first
    | (exfalso; omega)
    | ((refine ⟨k + 1, [], ?_, ?_, ?_, rfl⟩ <;> (try dsimp only); (focus (refine ⟨by omega, fun j hj => ?_⟩; by_cases hq : j = k; (focus (subst hq; assumption)); (focus exact hall j (by omega)))); (focus omega); (focus (refine St.le_mk rfl (VwOs.mk (by decide) ?_) ?_ <;> (repeat' (first | exact trivial | exact vwR rfl | exact Vw.ro _ | refine ⟨?_, ?_⟩ ))))); done)
    | (rw [hs1 (by omega) (by assumption)]; refine ⟨[_], [], ⟨resV_tmp (by conv => lhs; whnf), trivial⟩, VwOs.mk (by decide) trivial, ?_, rfl⟩; (repeat' (first | exact vwR rfl)); done)
    | (rw [hs2 (by omega)]; refine ⟨[_], [], ⟨resV_tmp (by conv => lhs; whnf), trivial⟩, VwOs.mk (by decide) trivial, ?_, rfl⟩; (repeat' (first | exact vwR rfl)); done)
    | (all_goals trace_state); fail
theorem idxOf_min {x : Nat} : ∀ (S : List Nat) (i : Nat), i < S.idxOf x → S.getD i 0 ≠ x ∨ S.length ≤ i
  | [], i, h => .inr (Nat.zero_le _)
  | y :: r, i, h => by
    rw [List.idxOf_cons] at h
    cases hq : y == x with
    | true => rw [hq] at h; exact absurd h (Nat.not_lt_zero _)
    | false =>
      rw [hq] at h
      have hyx : y ≠ x := by simpa using hq
      cases i with
      | zero => exact .inl hyx
      | succ i =>
        rcases idxOf_min r i (by simp at h; omega) with h1 | h1
        · exact .inl h1
        · exact .inr (by rw [List.length_cons]; omega)
theorem idx_of (S : List Nat) (x : Nat) : idx (fun y => decide (y = (x : Int))) (nl S) = if x ∈ S then (S.idxOf x : Int) else -1 := by
  split
  · rename_i hm
    have hl := List.idxOf_lt_length_iff.2 hm
    have hnl : ∀ i (h : i < (nl S).length), (nl S)[i] = ((S.getD i 0 : Nat) : Int) := fun i h => by
      have h' : i < S.length := by rwa [nl_len] at h
      rw [List.getD_eq_getElem?_getD, List.getElem?_eq_getElem h', Option.getD_some]
      simp only [nl, List.getElem_map]
    refine idx_some (by rw [nl_len]; exact hl) (fun i h1 h2 => ?_) ?_
    · rw [hnl i h1, decide_eq_false]
      intro e
      have := idxOf_min S i h2
      rw [nl_len] at h1
      rcases this with h3 | h3
      · exact h3 (by omega)
      · omega
    · rw [hnl _ (by rw [nl_len]; exact hl), decide_eq_true]
      rw [List.getD_eq_getElem?_getD, List.getElem?_eq_getElem hl, Option.getD_some, List.getElem_idxOf hl]
  · rename_i hm
    refine idx_none fun i h => decide_eq_false fun e => hm ?_
    rw [nl_len] at h
    simp only [nl, List.getElem_map] at e
    have : S[i] = x := by omega
    rw [← this]; exact List.getElem_mem h
end Go.Proofs.Ytgojkabjgagjcaa
