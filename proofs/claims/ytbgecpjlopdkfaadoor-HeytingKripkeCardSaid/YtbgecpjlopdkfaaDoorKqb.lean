import Derived.Test.YtbgecpjlopdkfaaDoorFm
import Derived.Test.YtbgecpjlopdkfaaDoorEngZj
import Derived.Test.YtbgecpjlopdkfaaDoorEngZd
import Derived.Test.YtbgecpjlopdkfaaDoorKo
set_option linter.unusedSimpArgs false
set_option linter.unusedVariables false
set_option linter.unusedSectionVars false
set_option maxRecDepth 20000
namespace Go.Proofs.YtbgecpjlopdkfaaDoor
theorem w_cutLJ {P : Program} {k : Nat} {cx : Cx k} [Zs] {x : Code} {Q : Exit → St → Prop} {n : Nat} {vars : List (Nat × AV)} {objs : List AO} {X : Type} (keep : List Nat) {vars0 : List (Nat × AV)} (hv : keepv keep vars = vars0) (mv : X → List (Nat × AV)) (ob : X → List AO) (I : X → Prop)
    (h1 : aC P cx x (thenA (fun st => ∃ z σ, I z ∧ st.le ⟨n, mv z ++ vars0, ob z⟩ σ ∧ fixB k σ = true) Q) ⟨n, vars, objs⟩) (h2 : ∀ z, I z → Q .normal ⟨n, mv z ++ vars0, ob z⟩) : aC P cx x Q ⟨n, vars, objs⟩ := by
  have _ := hv
  intro a w hr
  refine wp_mono (h1 a w hr) ?_
  rintro e a' w' ⟨st', q, r⟩
  cases e with
  | normal =>
    obtain ⟨z, σ, hi, hle, hσ⟩ := q
    exact ⟨_, h2 z hi, r.le hle hσ⟩
  | exit id => exact ⟨st', q, r⟩
  | goto l => exact ⟨st', q, r⟩
  | ret => exact ⟨st', q, r⟩
  | panic ch => exact ⟨st', q, r⟩
  | outgrown => exact ⟨st', q, r⟩
/-- A region that draws its order, nothing set aside. -/
theorem a_holdXJ [Zs] {P : Program} {k : Nat} {cx : Cx k} {K : St → Prop} {st : St} {id : Nat} {l : List Oper} {n : Nat} {Q : Exit → St → Prop} (hm : P.follows .mixedOrders = true) (hn : l.length = n) (h : xH P cx l.toArray K (fun _ => True) n (List.replicate n false) st) : aC P cx (.region id l.toArray true) (thenA K Q) st := by
  subst hn
  refine a_mono (Q := ThenK K) ?_ fun e st h => by cases e <;> first | exact h | exact h.elim
  intro a w hr
  have hr2 := hr.mono (w' := { w with drawn := w.drawn + 1 }) ⟨rfl, rfl, rfl, Nat.le_refl _, fun _ _ => rfl⟩
  refine wp_region_held (S := fun _ => True) hm ?_
  have := h (fun _ _ => trivial) _ _ hr2
  simpa using this
theorem lkp {l : List Oper} {i : Nat} {o : Oper} (h : l[i]? = some o) : l.toArray[i]? = some o := by simpa using h
attribute [local irreducible] QOp aL aC qL
theorem IndexV_ac (l : List Int) (x : Int) (hl : l.length ≤ 9223372036854775807) : AC Tryd.prog 121 [ints l, .val (.int .i64 x)] [] (.val (.int .i64 (idx (fun y => decide (y = x)) l))) [] := by
  refine AC.mk (n := 19) (fn := Tryd.f121) Tryd.func121 (by kernel_rfl) rfl rfl rfl rfl (fun cx => ?_); dsimp only [argv, Nat.reduceAdd]
  (repeat' (first | refine a_seq ?_ | refine a_block ?_ | refine a_region ?_ | refine l_nil ?_ | (apply w_q; (focus (first | exact Q_move (by conv => lhs; whnf) | exact Q_assign (by conv => lhs; whnf) | exact Q_len_ints rfl KSl.h)); (focus exact rfl)))); (try all_goals (try show retA _ _ _ _ _ _ _))
  (refine w_loop (X := Nat) [0, 1, 7] (by simp only [keepv, getv_cons, Nat.reduceEqDiff, ↓reduceIte]; exact rfl) (fun k => [(8, .val (.int .i64 (k : Int)))]) (fun _ => []) (fun k => k ≤ l.length ∧ ∀ j, j < k → (fun i => ¬ l.getD i 0 = x) j) (fun k => l.length - k) (0) ([]) ?_ ?_ rfl ?_ <;> (try dsimp only [List.cons_append, List.nil_append]); (focus exact ⟨Nat.zero_le _, fun j hj => absurd hj (Nat.not_lt_zero _)⟩); (focus (refine St.le_mk rfl (VwOs.mk (by decide) ?_) ?_ <;> (repeat' (first | exact trivial | exact vwR rfl | exact Vw.ro _ | refine ⟨?_, ?_⟩ )))); rintro k ⟨hk, hall⟩; try dsimp only at *)
  have hs1 : k < l.length → l.getD k 0 = x → idx (fun y => decide (y = x)) l = k := fun h1 h2 => idx_some h1 (fun i h3 h4 => decide_eq_false (by rw [← getD_of h3 0]; exact hall i h4)) (decide_eq_true (by rw [← getD_of h1 0]; exact h2))
  have hs2 : k = l.length → idx (fun y => decide (y = x)) l = -1 := fun h1 => idx_none fun i h2 => decide_eq_false (by rw [← getD_of h2 0]; exact hall i (by omega))
  (repeat' (first | refine a_seq ?_ | refine a_block ?_ | refine a_skip ?_ | refine a_ret ?_ | refine a_exit ?_ | refine a_region ?_ | refine l_nil ?_ | (apply w_q; (focus (first | exact Q_move (by conv => lhs; whnf) | exact Q_assign (by conv => lhs; whnf) | exact Q_lss rfl rfl | exact Q_eql rfl rfl | exact Q_add rfl rfl (by omega) | exact Q_ix_ints rfl rfl rfl KSl.h (by omega) | exact Q_ld_ints rfl (by omega) KSc.h)); (focus exact rfl)) | (refine a_cond rfl ?_ ?_ <;> (intro h; (try (have hp := of_decide_eq_true h)); (try (have hp := of_decide_eq_false h)); (try contradiction); (try (exfalso; omega)))))); (try all_goals (try show retA _ _ _ _ _ _ _))
  all_goals first
    | (exfalso; omega)
    | ((refine ⟨k + 1, [], ?_, ?_, ?_, rfl⟩ <;> (try dsimp only); (focus (refine ⟨by omega, fun j hj => ?_⟩; by_cases hq : j = k; (focus (subst hq; (exact fun hc => hp hc.symm))); (focus exact hall j (by omega)))); (focus omega); (focus (refine St.le_mk rfl (VwOs.mk (by decide) ?_) ?_ <;> (repeat' (first | exact trivial | exact vwR rfl | exact Vw.ro _ | refine ⟨?_, ?_⟩ ))))); done)
    | (rw [hs1 (by omega) (by first | assumption | exact Eq.symm (by assumption))]; refine ⟨[_], [], ⟨resV_tmp (by conv => lhs; whnf), trivial⟩, VwOs.mk (by decide) trivial, ?_, rfl⟩; (repeat' (first | exact vwR rfl)); done)
    | (rw [hs2 (by omega)]; refine ⟨[_], [], ⟨resV_tmp (by conv => lhs; whnf), trivial⟩, VwOs.mk (by decide) trivial, ?_, rfl⟩; (repeat' (first | exact vwR rfl)); done)
    | (all_goals trace_state); fail
/-- Where a set stands. -/
def plc (S : List Nat) (s : Nat) : Int := idx (fun y => decide (y = (s : Int))) (nl S)
/-- A row of the lattice of sets, as far as k. -/
def mrow (S : List Nat) (op : Nat → Nat → Nat) (s k : Nat) : List Int := (S.take k).map fun t => plc S (op s t)
def mtab (S : List Nat) (op : Nat → Nat → Nat) (i : Nat) : List (List Int) := (S.take i).map fun s => mrow S op s S.length
theorem take_one {S : List Nat} {k : Nat} (h : k < S.length) : S.take (k + 1) = S.take k ++ [S.getD k 0] := by
  rw [List.take_add_one, List.getElem?_eq_getElem h, List.getD_eq_getElem?_getD, List.getElem?_eq_getElem h]; rfl
theorem mrow_succ {S : List Nat} {op : Nat → Nat → Nat} {s k : Nat} (h : k < S.length) : mrow S op s (k + 1) = mrow S op s k ++ [plc S (op s (S.getD k 0))] := by
  unfold mrow; rw [take_one h, List.map_append]; rfl
theorem mtab_succ {S : List Nat} {op : Nat → Nat → Nat} {i : Nat} (h : i < S.length) : mtab S op (i + 1) = mtab S op i ++ [mrow S op (S.getD i 0) S.length] := by
  unfold mtab; rw [take_one h, List.map_append]; rfl
theorem mrow_len (S : List Nat) (op : Nat → Nat → Nat) (s k : Nat) : (mrow S op s k).length ≤ k := by unfold mrow; rw [List.length_map, List.length_take]; omega
theorem mtab_len (S : List Nat) (op : Nat → Nat → Nat) (k : Nat) : (mtab S op k).length ≤ k := by unfold mtab; rw [List.length_map, List.length_take]; omega
end Go.Proofs.YtbgecpjlopdkfaaDoor
set_option linter.unusedSimpArgs false
set_option linter.unusedVariables false
set_option linter.unusedSectionVars false
set_option maxRecDepth 20000
namespace Go.Proofs.YtbgecpjlopdkfaaDoor
attribute [local irreducible] QOp aL aC qL
theorem LDist_ok (n : Nat) (M J : List (List Nat)) (hL : La n M J) : AC Tryd.prog 116 [latA n (tn M) (tn J)] [] (.tup [.val (.bool (!triB n (disP M J))), .val (.int .i64 0)]) [] := by
  have k1 := hL.chk
  have k2 := three_ac n M J (disP M J) hL.n2 (g := 131) (caps := [.rpt [.val (.int .i64 n), .sl 1 (rowc (tn M)), .sl 1 (rowc (tn J))] 0]) (fun x y z hx hy hz => Dis1_ac n M J hL x y z hx hy hz)
  generalize triB n (disP M J) = b at k2 ⊢
  generalize triL n (disP M J) = L at k2
  refine AC.mk (n := 20) (fn := Tryd.f116) Tryd.func116 (by kernel_rfl) rfl rfl rfl rfl (fun cx => ?_); dsimp only [argv, Nat.reduceAdd]
  (repeat' (first | refine a_seq ?_ | refine a_skip ?_ | refine a_ret ?_ | refine a_region ?_ | refine l_nil ?_ | (apply w_q; (focus (first | exact Q_move (by conv => lhs; whnf) | exact Q_assign (by conv => lhs; whnf) | exact Q_load_all rfl rfl KAg.h | exact Q_neq rfl rfl | exact Q_extract rfl (by conv => lhs; whnf) | exact Q_not rfl | exact Q_clo1 (by conv => lhs; whnf))); (focus exact rfl)) | (refine a_cond rfl ?_ ?_ <;> (intro h; (try (have hp := of_decide_eq_true h)); (try (have hp := of_decide_eq_false h)); (try contradiction); (try (exfalso; omega)))) | refine w_box rfl rfl (by first|(dsimp only[obA,obB,obD,obE,obF,obG,obI,List.map,AO.sh,AV.sh,AV.shl,Nat.reduceAdd];done)|exact rfl) (by first|(dsimp only[obA,obB,obD,obE,obF,obG,obI,List.map,AO.sh,AV.sh,AV.shl,Nat.reduceAdd];done)|exact rfl) rfl ?_ | (((first | apply w_q); (focus (refine Q_call (.inl ⟨rfl, rfl⟩) (k1) ?_; ((repeat' (first | exact trivial | exact vwR rfl | exact Vw.ro _ | refine Vw.agg' ?_ | refine ⟨?_, ?_⟩ )); done))); (focus exact rfl))) | ((refine w_freezeB 0 [.val (.int .i64 n), .sl 1 (rowc (tn M)), .sl 1 (rowc (tn J))] rfl rfl (by simp only [fbv_nil, fbv_cons, fbl_nil, fbl_cons, fbo_nil, fbo_cons, fbo_box, fbo_row, fbo_gone, fb_own, fb_val, fb_ro, fb_rpt, fb_ptr, fb_ept, fb_agg, fb_tup, fb_clo, fb_ints, fb_rows, fb_pairs, fb_ords, Nat.reduceEqDiff, ↓reduceIte, List.set_cons_zero, List.set_cons_succ]; exact rfl) (by simp only [fbv_nil, fbv_cons, fbl_nil, fbl_cons, fbo_nil, fbo_cons, fbo_box, fbo_row, fbo_gone, fb_own, fb_val, fb_ro, fb_rpt, fb_ptr, fb_ept, fb_agg, fb_tup, fb_clo, fb_ints, fb_rows, fb_pairs, fb_ords, Nat.reduceEqDiff, ↓reduceIte, List.set_cons_zero, List.set_cons_succ]; exact rfl) ?_; (refine w_callV (.inl ⟨rfl, rfl⟩) (k2) ?_ (by first | (dsimp only [AV.sh, AV.shl, sh_ints, sh_rows, sh_pairs, sh_ords]; done) | exact rfl) rfl ?_; rotate_left 0; (focus ((repeat' (first | exact trivial | exact Vs.val _ | exact Vs.ro _ | exact Vs.rpt _ _ | refine Vs.agg' ?_ | refine Vs.clo' ?_ | refine ⟨?_, ?_⟩)); done)); rotate_left 1; all_goals (try (skip))))))); (try all_goals (try show retA _ _ _ _ _ _ _))
  refine ⟨[_, _], [], ⟨resV_tmp (by conv => lhs; whnf), resV_tmp (by conv => lhs; whnf), trivial⟩, VwOs.mk (by decide) trivial, ?_, rfl⟩
  (repeat' (first | exact vwRL rfl | refine Vw.tup' ?_))
end Go.Proofs.YtbgecpjlopdkfaaDoor
