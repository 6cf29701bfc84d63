import Derived.Test.YtbgecpjlopdkfaaDoorHeg
set_option linter.unusedSimpArgs false
set_option linter.unusedVariables false
set_option linter.unusedSectionVars false
set_option maxRecDepth 20000
namespace Go.Proofs.YtbgecpjlopdkfaaDoor
attribute [local irreducible] QOp aL aC qL
attribute [local irreducible] FOp POp hL xH
section
variable (N : Int) (m w : List (List Int)) (hm : m.length ≤ 9223372036854775807) (hw : w.length ≤ 9223372036854775807) (hmr : ∀ r ∈ m, r.length ≤ 9223372036854775807) (hwr : ∀ r ∈ w, r.length ≤ 9223372036854775807) (h : hck N m w ≠ 0)
include hm hw hmr hwr h
end
section
variable {n : Nat} {M J : List (List Nat)} (hL : La n M J) (hd : triB n (disP M J) = false)
include hL hd
set_option maxRecDepth 20000 in
theorem HImp_ok {x y : Nat} (hx : x < n) (hy : y < n) : AC Tryd.prog 75 [latA n (tn M) (tn J), .val (.int .i64 x), .val (.int .i64 y)] [] (.tup [.val (.int .i64 (impV n M J x y : Nat)), .val (.int .i64 0)]) [] := by
  have k := newAlg_ok n M J hL hd
  have ki := implies_0 hL hx hy
  have hn2 := hL.n2
  unfold alg0 at k ki
  unfold alg1 at ki
  unfold algC at k ki
  generalize impV n M J x y = r at *
  generalize tn (impA n M J) = T at *
  generalize endE (ta M) n = lo at *
  generalize endE (ta J) n = hi at *
  refine AC.mk (n := 34) (fn := Tryd.f75) Tryd.func75 (by kernel_rfl) rfl rfl rfl rfl (fun cx => ?_); dsimp only [argv, Nat.reduceAdd]
  (repeat' (first | refine a_seq ?_ | refine a_skip ?_ | refine a_ret ?_ | refine a_region ?_ | refine l_nil ?_ | (apply w_q; (focus (first | exact Q_move (by conv => lhs; whnf) | exact Q_assign (by conv => lhs; whnf) | exact Q_fieldAddr_ptr rfl KFl.h | exact Q_load_ptr rfl rfl rfl KSc.h | exact Q_load_all rfl rfl KAg.h | exact Q_lss rfl rfl | exact Q_geq rfl rfl | exact Q_neq rfl rfl | exact Q_extract rfl (by conv => lhs; whnf) | exact Q_pick_f rfl (by assumption) (by conv => lhs; whnf) | exact Q_maxN rfl rfl | exact Q_minN rfl rfl)); (focus exact rfl)) | (refine a_cond rfl ?_ ?_ <;> (intro h; (try (have hp := of_decide_eq_true h)); (try (have hp := of_decide_eq_false h)); (try contradiction); (try (exfalso; omega)))) | refine w_guard_y rfl rfl rfl (by first | assumption | rfl) ?_ | refine w_box rfl rfl (by first|(dsimp only[obA,obB,obD,obE,obF,obG,obI,List.map,AO.sh,AV.sh,AV.shl,Nat.reduceAdd];done)|exact rfl) (by first|(dsimp only[obA,obB,obD,obE,obF,obG,obI,List.map,AO.sh,AV.sh,AV.shl,Nat.reduceAdd];done)|exact rfl) rfl ?_ | ((refine w_callD (res := .tup [.ptr 0 0, .val (.int .i64 0)]) (news := [.box [.val (.int .i64 n), rows (tn M), rows (tn J), .val (.int .u32 0), .val (.int .i32 0), .val (.int .u32 0), .val (.slice none 0 0), .val (.int .i64 lo), .val (.int .i64 hi)]]) (.inl ⟨rfl, rfl⟩) (k) ?_ ?_ ?_ (by first | (dsimp only [List.cons_append, List.nil_append, List.append_nil, List.map, AO.sh, AV.sh, AV.shl, sh_ints, sh_rows, sh_pairs, sh_ords, List.length_cons, List.length_nil, Nat.reduceAdd, Nat.zero_add, Nat.add_zero]; done) | exact rfl) (by first | (dsimp only [AV.sh, AV.shl, sh_ints, sh_rows, sh_pairs, sh_ords, List.length_cons, List.length_nil, Nat.reduceAdd, Nat.zero_add, Nat.add_zero]; done) | exact rfl) rfl ?_; rotate_left 0; (focus exact rfl); (focus exact rfl); (focus ((repeat' (first | exact trivial | exact Vs.val _ | exact Vs.ro _ | refine Vs.agg' ?_ | refine ⟨?_, ?_⟩)); done)); rotate_left 1; all_goals (try (skip)))) | ((refine w_callN (res := .val (.int .i64 r)) (news := [.box [.val (.int .i64 n), rows (tn M), rows (tn J), .val (.int .u32 1), .val (.int .i32 0), .val (.int .u32 0), .own 1, .val (.int .i64 lo), .val (.int .i64 hi)], .row 22 1 (rowc T)]) (res' := .val (.int .i64 r)) (objs' := [.box [.val (.int .i64 n), rows (tn M), rows (tn J)], .box [.val (.int .i64 n), rows (tn M), rows (tn J), .val (.int .u32 1), .val (.int .i32 0), .val (.int .u32 0), .own 2, .val (.int .i64 lo), .val (.int .i64 hi)], .row 22 1 (rowc T)]) [1] 1 (.inl ⟨rfl, rfl⟩) (ki) ?_ ?_ rfl rfl (by decide) ?_ rfl rfl ?_ rfl rfl rfl ?_; rotate_left 0; (focus exact rfl); (focus exact rfl); (focus exact rfl); (focus exact rfl); rotate_left 1; all_goals (try (skip)))))); (try all_goals (try show retA _ _ _ _ _ _ _))
  all_goals first
    | (exfalso; omega)
    | (exfalso; simp at *; omega)
    | (refine ⟨[_, _], [], ⟨resV_tmp (by conv => lhs; whnf), resV_tmp (by conv => lhs; whnf), trivial⟩, VwOs.mk (by decide) trivial, ?_, rfl⟩; (repeat' (first | exact vwRL rfl | refine Vw.tup' ?_)); done)
    | (all_goals trace_state); fail
end
/-- What the reference asks of an element. -/
def tpB (M : List (List Nat)) (x y z w : Nat) : Bool := decide (ta M (ta M x z) y = ta M x z) && (List.range w).all fun u => !decide (ta M (ta M x u) y = ta M x u) || decide (ta M u z = u)
theorem tpB_succ (M : List (List Nat)) (x y z w : Nat) : tpB M x y z (w + 1) = (tpB M x y z w && (!decide (ta M (ta M x w) y = ta M x w) || decide (ta M w z = w))) := by
  unfold tpB
  rw [List.range_succ, List.all_append]
  simp [Bool.and_assoc]
theorem tpB_iff {n : Nat} {M J : List (List Nat)} (hL : La n M J) (hD : DisP n (ta M) (ta J)) {x y z : Nat} (hx : x < n) (hy : y < n) (hz : z < n) : tpB M x y z n = true ↔ z = impV n M J x y := by
  unfold tpB
  simp only [Bool.and_eq_true, decide_eq_true_eq, List.all_eq_true, List.mem_range, Bool.or_eq_true, Bool.not_eq_true', decide_eq_false_iff_not]
  constructor
  · rintro ⟨h1, h2⟩
    exact imp_one hL.A hL.n1 hD hx hy hz h1 fun w hw h => (h2 w hw).resolve_left fun q => q h
  · rintro rfl
    obtain ⟨h1, h2⟩ := imp_is hL.A hL.n1 hD hx hy
    exact ⟨h1, fun w hw => (Classical.em _).elim (fun q => .inr (h2 w hw q)) .inl⟩
set_option maxRecDepth 20000 in
set_option maxHeartbeats 4000000 in
theorem RImp_ac (n : Nat) (M J : List (List Nat)) (hL : La n M J) (hD : DisP n (ta M) (ta J)) (x y : Nat) (hx : x < n) (hy : y < n) :
    AC Tryd.prog 93 [latA n (tn M) (tn J), .val (.int .i64 x), .val (.int .i64 y)] [] (.val (.int .i64 (impV n M J x y : Nat))) [] := by
  have hM := hL.sM
  have hn2 := hL.n2
  have hr : impV n M J x y < n := impF_lt hL.A hL.n1 n (Nat.le_refl n)
  have hiff := fun z hz => tpB_iff hL hD hx hy (z := z) hz
  generalize impV n M J x y = r at *
  have hsu := fun z w => tpB_succ M x y z w
  have hzr : ∀ z, tpB M x y z 0 = decide (ta M (ta M x z) y = ta M x z) := fun z => by unfold tpB; simp
  have kU := fun a b ha hb => LUnder_ac n M J hM a b ha hb
  refine AC.mk (n := 56) (fn := Tryd.f93) Tryd.func93 (by kernel_rfl) rfl rfl rfl rfl (fun cx => ?_); dsimp only [argv, Nat.reduceAdd]
  (repeat' (first | refine a_seq ?_ | refine a_block ?_ | refine a_region ?_ | refine l_nil ?_ | (apply w_q; (focus (first | exact Q_assign (by conv => lhs; whnf))); (focus exact rfl)) | refine w_box rfl rfl (by first|(dsimp only[obA,obB,obD,obE,obF,obG,obI,List.map,AO.sh,AV.sh,AV.shl,Nat.reduceAdd];done)|exact rfl) (by first|(dsimp only[obA,obB,obD,obE,obF,obG,obI,List.map,AO.sh,AV.sh,AV.shl,Nat.reduceAdd];done)|exact rfl) rfl ?_)); (try all_goals (try show retA _ _ _ _ _ _ _))
  refine w_freezeBC 0 [.val (.int .i64 n), .sl 1 (rowc (tn M)), .sl 1 (rowc (tn J))] rfl rfl (by simp only [fbv_nil, fbv_cons, fbl_nil, fbl_cons, fbo_nil, fbo_cons, fbo_box, fbo_row, fbo_gone, fb_own, fb_val, fb_ro, fb_rpt, fb_ptr, fb_ept, fb_agg, fb_tup, fb_clo, fb_ints, fb_rows, fb_pairs, fb_ords, Nat.reduceEqDiff, ↓reduceIte, List.set_cons_zero, List.set_cons_succ]; exact rfl) (by simp only [fbv_nil, fbv_cons, fbl_nil, fbl_cons, fbo_nil, fbo_cons, fbo_box, fbo_row, fbo_gone, fb_own, fb_val, fb_ro, fb_rpt, fb_ptr, fb_ept, fb_agg, fb_tup, fb_clo, fb_ints, fb_rows, fb_pairs, fb_ords, Nat.reduceEqDiff, ↓reduceIte, List.set_cons_zero, List.set_cons_succ]; exact rfl) ?_
  refine w_loop (X := Nat) [1, 2, 3] (by simp only [keepv, getv_cons, Nat.reduceEqDiff, ↓reduceIte]; exact rfl) (fun z => [(7, .val (.int .i64 (z : Nat)))]) (fun _ => [.gone]) (fun z => z ≤ r) (fun z => r - z) (0) ([0]) ?_ ?_ rfl ?_ <;> (try dsimp only [List.cons_append, List.nil_append])
  · exact Nat.zero_le _
  · (refine St.le_mk rfl (VwOs.mk (by decide) ?_) ?_ <;> (repeat' (first | exact trivial | exact vwR rfl | exact VwO.gone _ | refine ⟨⟨_, rfl, ?_⟩, ?_⟩ | refine ⟨?_, ?_⟩ )))
  rintro z hz
  have hzn : z < n := by omega
  have hm := hM.lt x z hx hzn
  have k1 := kU (ta M x z) y hm hy
  rw [← hzr] at k1
  generalize ht0 : tpB M x y z 0 = t0 at k1
  
  (repeat' (first | ((first | apply w_q | apply w_qq); (focus (first | exact Q_ix_tn (by assumption) rfl rfl rfl KSl.h (by first | omega | exact Sq.lt (by assumption) _ _ (by omega) (by omega) | exact Mp.lt (by assumption) _ (by omega) | exact Sq.lt (by assumption) _ _ (by first | omega | exact Mp.lt (by assumption) _ (by omega)) (by first | omega | exact Mp.lt (by assumption) _ (by omega)) | exact Mp.lt (by assumption) _ (by first | exact Sq.lt (by assumption) _ _ (by omega) (by omega) | exact Mp.lt (by assumption) _ (by first | omega | exact Mp.lt (by assumption) _ (by omega)))) | exact Q_ld_tn (by assumption) rfl (by first | omega | exact Sq.lt (by assumption) _ _ (by omega) (by omega) | exact Mp.lt (by assumption) _ (by omega) | exact Sq.lt (by assumption) _ _ (by first | omega | exact Mp.lt (by assumption) _ (by omega)) (by first | omega | exact Mp.lt (by assumption) _ (by omega)) | exact Mp.lt (by assumption) _ (by first | exact Sq.lt (by assumption) _ _ (by omega) (by omega) | exact Mp.lt (by assumption) _ (by first | omega | exact Mp.lt (by assumption) _ (by omega)))) KSc.h | exact Q_ix_tr (by assumption) rfl rfl rfl KSl.h (by first | omega | exact Sq.lt (by assumption) _ _ (by omega) (by omega) | exact Mp.lt (by assumption) _ (by omega) | exact Sq.lt (by assumption) _ _ (by first | omega | exact Mp.lt (by assumption) _ (by omega)) (by first | omega | exact Mp.lt (by assumption) _ (by omega)) | exact Mp.lt (by assumption) _ (by first | exact Sq.lt (by assumption) _ _ (by omega) (by omega) | exact Mp.lt (by assumption) _ (by first | omega | exact Mp.lt (by assumption) _ (by omega)))) (by first | omega | exact Sq.lt (by assumption) _ _ (by omega) (by omega) | exact Mp.lt (by assumption) _ (by omega) | exact Sq.lt (by assumption) _ _ (by first | omega | exact Mp.lt (by assumption) _ (by omega)) (by first | omega | exact Mp.lt (by assumption) _ (by omega)) | exact Mp.lt (by assumption) _ (by first | exact Sq.lt (by assumption) _ _ (by omega) (by omega) | exact Mp.lt (by assumption) _ (by first | omega | exact Mp.lt (by assumption) _ (by omega)))) | exact Q_ld_ta (by assumption) rfl (by first | omega | exact Sq.lt (by assumption) _ _ (by omega) (by omega) | exact Mp.lt (by assumption) _ (by omega) | exact Sq.lt (by assumption) _ _ (by first | omega | exact Mp.lt (by assumption) _ (by omega)) (by first | omega | exact Mp.lt (by assumption) _ (by omega)) | exact Mp.lt (by assumption) _ (by first | exact Sq.lt (by assumption) _ _ (by omega) (by omega) | exact Mp.lt (by assumption) _ (by first | omega | exact Mp.lt (by assumption) _ (by omega)))) (by first | omega | exact Sq.lt (by assumption) _ _ (by omega) (by omega) | exact Mp.lt (by assumption) _ (by omega) | exact Sq.lt (by assumption) _ _ (by first | omega | exact Mp.lt (by assumption) _ (by omega)) (by first | omega | exact Mp.lt (by assumption) _ (by omega)) | exact Mp.lt (by assumption) _ (by first | exact Sq.lt (by assumption) _ _ (by omega) (by omega) | exact Mp.lt (by assumption) _ (by first | omega | exact Mp.lt (by assumption) _ (by omega)))) KSc.h)); (focus exact rfl)) | (first | refine a_seq ?_ | refine a_block ?_ | refine a_skip ?_ | refine a_region ?_ | refine l_nil ?_ | refine q_nil ?_ | ((first | apply w_q | apply w_qq); (focus (first | exact Q_move (by conv => lhs; whnf) | exact Q_assign (by conv => lhs; whnf) | exact Q_fieldAddr_rpt rfl KFl.h | exact Q_lss rfl rfl | exact Q_ld_rpa rfl KAg.h rfl rfl (by first | (dsimp only [List.drop_zero, List.drop_succ_cons, List.take_succ_cons, List.take_zero, List.map, ofD]; done) | exact rfl) | exact Q_ld_rv rfl rfl KSc.h | exact Q_ld_rs rfl rfl KSc.h)); (focus exact rfl)) | (refine a_cond rfl ?_ ?_ <;> (intro h; (try (have hp := of_decide_eq_true h)); (try (have hp := of_decide_eq_false h)); (try contradiction); (try (exfalso; omega)))) | refine a_draw (by kernel_rfl) (by kernel_rfl) ?_ | (((first | apply w_qq); (focus (refine Q_call (.inl ⟨rfl, rfl⟩) (k1) ?_; ((repeat' (first | exact trivial | exact vwR rfl | exact vwRL rfl | exact Vw.ro _ | refine Vw.agg' ?_ | refine ⟨?_, ?_⟩ )); done))); (focus exact rfl)))))); (try all_goals (try show retA _ _ _ _ _ _ _))
  
  all_goals first
    | (exfalso; omega)
    | skip
  refine w_loop (X := Nat) [1, 2, 3, 7] (by simp only [keepv, getv_cons, Nat.reduceEqDiff, ↓reduceIte]; exact rfl) (fun w => [(8, .val (.bool (tpB M x y z w))), (9, .val (.int .i64 (w : Nat)))]) (fun _ => [.gone]) (fun w => w ≤ n) (fun w => n - w) (0) ([0]) ?_ ?_ rfl ?_ <;> (try dsimp only [List.cons_append, List.nil_append])
  · exact Nat.zero_le _
  · rw [ht0]
    (refine St.le_mk rfl (VwOs.mk (by decide) ?_) ?_ <;> (repeat' (first | exact trivial | exact vwR rfl | exact VwO.gone _ | refine ⟨⟨_, rfl, ?_⟩, ?_⟩ | refine ⟨?_, ?_⟩ )))
  rintro w hwl
  by_cases hwn : w < n
  · have hs := hsu z w
    have hm2 := hM.lt x w hx hwn
    have k2 := kU (ta M x w) y hm2 hy
    have k3 := kU w z hwn hzn
    generalize htw1 : tpB M x y z (w + 1) = t1 at *
    generalize tpB M x y z w = t at *
    generalize decide (ta M (ta M x w) y = ta M x w) = b2 at *
    generalize decide (ta M w z = w) = b3 at *
    have hc : t = false ∧ t1 = false ∨ t = true ∧ (b2 = false ∧ t1 = true ∨ b2 = true ∧ t1 = b3) := by
      cases t <;> cases b2 <;> simp [hs]
    rcases hc with ⟨rfl, rfl⟩ | ⟨rfl, ⟨rfl, rfl⟩ | ⟨rfl, rfl⟩⟩
    all_goals
      clear hs
      
      (repeat' (first | ((first | apply w_q | apply w_qq); (focus (first | exact Q_ix_tn (by assumption) rfl rfl rfl KSl.h (by first | omega | exact Sq.lt (by assumption) _ _ (by omega) (by omega) | exact Mp.lt (by assumption) _ (by omega) | exact Sq.lt (by assumption) _ _ (by first | omega | exact Mp.lt (by assumption) _ (by omega)) (by first | omega | exact Mp.lt (by assumption) _ (by omega)) | exact Mp.lt (by assumption) _ (by first | exact Sq.lt (by assumption) _ _ (by omega) (by omega) | exact Mp.lt (by assumption) _ (by first | omega | exact Mp.lt (by assumption) _ (by omega)))) | exact Q_ld_tn (by assumption) rfl (by first | omega | exact Sq.lt (by assumption) _ _ (by omega) (by omega) | exact Mp.lt (by assumption) _ (by omega) | exact Sq.lt (by assumption) _ _ (by first | omega | exact Mp.lt (by assumption) _ (by omega)) (by first | omega | exact Mp.lt (by assumption) _ (by omega)) | exact Mp.lt (by assumption) _ (by first | exact Sq.lt (by assumption) _ _ (by omega) (by omega) | exact Mp.lt (by assumption) _ (by first | omega | exact Mp.lt (by assumption) _ (by omega)))) KSc.h | exact Q_ix_tr (by assumption) rfl rfl rfl KSl.h (by first | omega | exact Sq.lt (by assumption) _ _ (by omega) (by omega) | exact Mp.lt (by assumption) _ (by omega) | exact Sq.lt (by assumption) _ _ (by first | omega | exact Mp.lt (by assumption) _ (by omega)) (by first | omega | exact Mp.lt (by assumption) _ (by omega)) | exact Mp.lt (by assumption) _ (by first | exact Sq.lt (by assumption) _ _ (by omega) (by omega) | exact Mp.lt (by assumption) _ (by first | omega | exact Mp.lt (by assumption) _ (by omega)))) (by first | omega | exact Sq.lt (by assumption) _ _ (by omega) (by omega) | exact Mp.lt (by assumption) _ (by omega) | exact Sq.lt (by assumption) _ _ (by first | omega | exact Mp.lt (by assumption) _ (by omega)) (by first | omega | exact Mp.lt (by assumption) _ (by omega)) | exact Mp.lt (by assumption) _ (by first | exact Sq.lt (by assumption) _ _ (by omega) (by omega) | exact Mp.lt (by assumption) _ (by first | omega | exact Mp.lt (by assumption) _ (by omega)))) | exact Q_ld_ta (by assumption) rfl (by first | omega | exact Sq.lt (by assumption) _ _ (by omega) (by omega) | exact Mp.lt (by assumption) _ (by omega) | exact Sq.lt (by assumption) _ _ (by first | omega | exact Mp.lt (by assumption) _ (by omega)) (by first | omega | exact Mp.lt (by assumption) _ (by omega)) | exact Mp.lt (by assumption) _ (by first | exact Sq.lt (by assumption) _ _ (by omega) (by omega) | exact Mp.lt (by assumption) _ (by first | omega | exact Mp.lt (by assumption) _ (by omega)))) (by first | omega | exact Sq.lt (by assumption) _ _ (by omega) (by omega) | exact Mp.lt (by assumption) _ (by omega) | exact Sq.lt (by assumption) _ _ (by first | omega | exact Mp.lt (by assumption) _ (by omega)) (by first | omega | exact Mp.lt (by assumption) _ (by omega)) | exact Mp.lt (by assumption) _ (by first | exact Sq.lt (by assumption) _ _ (by omega) (by omega) | exact Mp.lt (by assumption) _ (by first | omega | exact Mp.lt (by assumption) _ (by omega)))) KSc.h)); (focus exact rfl)) | (first | refine a_seq ?_ | refine a_block ?_ | refine a_skip ?_ | refine a_region ?_ | refine l_nil ?_ | refine q_nil ?_ | ((first | apply w_q | apply w_qq); (focus (first | exact Q_move (by conv => lhs; whnf) | exact Q_assign (by conv => lhs; whnf) | exact Q_fieldAddr_rpt rfl KFl.h | exact Q_lss rfl rfl | exact Q_add rfl rfl (by omega) | exact Q_ld_rpa rfl KAg.h rfl rfl (by first | (dsimp only [List.drop_zero, List.drop_succ_cons, List.take_succ_cons, List.take_zero, List.map, ofD]; done) | exact rfl) | exact Q_ld_rv rfl rfl KSc.h | exact Q_ld_rs rfl rfl KSc.h | exact Q_not rfl | exact Q_pick_t rfl rfl (by conv => lhs; whnf) | exact Q_pick_f rfl rfl (by conv => lhs; whnf))); (focus exact rfl)) | (refine a_cond rfl ?_ ?_ <;> (intro h; (try (have hp := of_decide_eq_true h)); (try (have hp := of_decide_eq_false h)); (try contradiction); (try (exfalso; omega)))) | refine w_qguard_u rfl rfl rfl ?_ | refine w_qguard_y rfl rfl rfl (by first | assumption | rfl) ?_ | refine w_qguard_n rfl rfl rfl (by first | assumption | rfl) ?_ | refine a_draw (by kernel_rfl) (by kernel_rfl) ?_ | (((first | apply w_qq); (focus (refine Q_call (.inl ⟨rfl, rfl⟩) (k2) ?_; ((repeat' (first | exact trivial | exact vwR rfl | exact vwRL rfl | exact Vw.ro _ | refine Vw.agg' ?_ | refine ⟨?_, ?_⟩ )); done))); (focus exact rfl))) | (((first | apply w_qq); (focus (refine Q_call (.inl ⟨rfl, rfl⟩) (k3) ?_; ((repeat' (first | exact trivial | exact vwR rfl | exact vwRL rfl | exact Vw.ro _ | refine Vw.agg' ?_ | refine ⟨?_, ?_⟩ )); done))); (focus exact rfl)))))); (try all_goals (try show retA _ _ _ _ _ _ _))
      
      all_goals first
        | (exfalso; omega)
        | (exfalso; simp at *; done)
        | (refine ⟨w + 1, [0], ?_, ?_, ?_, rfl⟩ <;> (try dsimp only)
           · omega
           · omega
           · rw [htw1]; (refine St.le_mk rfl (VwOs.mk (by decide) ?_) ?_ <;> (repeat' (first | exact trivial | exact vwR rfl | exact VwO.gone _ | refine ⟨⟨_, rfl, ?_⟩, ?_⟩ | refine ⟨?_, ?_⟩ ))))
        | (all_goals trace_state); fail
  · obtain rfl : w = n := by omega
    have hi := hiff z hzn
    generalize tpB M x y z w = t at *
    cases t
    · have hne : z ≠ r := fun q => Bool.noConfusion (hi.2 q)
      (repeat' (first | refine a_seq ?_ | refine a_skip ?_ | refine a_exit ?_ | refine a_region ?_ | refine l_nil ?_ | (apply w_q; (focus (first | exact Q_move (by conv => lhs; whnf) | exact Q_assign (by conv => lhs; whnf) | exact Q_fieldAddr_rpt rfl KFl.h | exact Q_lss rfl rfl | exact Q_add rfl rfl (by omega) | exact Q_ld_rv rfl rfl KSc.h)); (focus exact rfl)) | (refine a_cond rfl ?_ ?_ <;> (intro h; (try (have hp := of_decide_eq_true h)); (try (have hp := of_decide_eq_false h)); (try contradiction); (try (exfalso; omega)))))); (try all_goals (try show retA _ _ _ _ _ _ _))
      all_goals first
        | (exfalso; omega)
        | (exfalso; simp at *; done)
        | (refine ⟨z + 1, [0], ?_, ?_, ?_, rfl⟩ <;> (try dsimp only)
           · omega
           · omega
           · (refine St.le_mk rfl (VwOs.mk (by decide) ?_) ?_ <;> (repeat' (first | exact trivial | exact vwR rfl | exact VwO.gone _ | refine ⟨⟨_, rfl, ?_⟩, ?_⟩ | refine ⟨?_, ?_⟩ ))))
        | (all_goals trace_state); fail
    · obtain rfl := hi.1 rfl
      (repeat' (first | refine a_seq ?_ | refine a_ret ?_ | refine a_exit ?_ | refine a_region ?_ | refine l_nil ?_ | (apply w_q; (focus (first | exact Q_move (by conv => lhs; whnf) | exact Q_assign (by conv => lhs; whnf) | exact Q_fieldAddr_rpt rfl KFl.h | exact Q_lss rfl rfl | exact Q_ld_rv rfl rfl KSc.h)); (focus exact rfl)) | (refine a_cond rfl ?_ ?_ <;> (intro h; (try (have hp := of_decide_eq_true h)); (try (have hp := of_decide_eq_false h)); (try contradiction); (try (exfalso; omega)))))); (try all_goals (try show retA _ _ _ _ _ _ _))
      all_goals first
        | (exfalso; omega)
        | (exfalso; simp at *; done)
        | (refine ⟨[_], [], ⟨resV_tmp (by conv => lhs; whnf), trivial⟩, VwOs.mk (by decide) trivial, ?_, rfl⟩; (repeat' (first | exact vwR rfl)); done)
        | (all_goals trace_state); fail
end Go.Proofs.YtbgecpjlopdkfaaDoor
