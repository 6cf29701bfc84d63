import Derived.Test.YtgojkabjgagjcaaEj
set_option linter.unusedSimpArgs false
set_option linter.unusedVariables false
set_option linter.unusedSectionVars false
set_option maxRecDepth 20000
namespace Go.Proofs.Ytgojkabjgagjcaa
attribute [local irreducible] QOp aL aC qL
attribute [local irreducible] FOp POp hL xH
theorem ordR_bad {R : List (List Nat)} {a b i : Nat} (hi : i < R.length) (h : ¬ (R.getD i []).idxOf a < (R.getD i []).idxOf b) : ordR R a b = false := by
  unfold ordR
  rw [List.all_eq_false]
  exact ⟨R.getD i [], by rw [getD_of hi]; exact List.getElem_mem hi, by rw [decide_eq_false h]; decide⟩
theorem ordR_good {R : List (List Nat)} {a b : Nat} (h : ∀ i, i < R.length → (R.getD i []).idxOf a < (R.getD i []).idxOf b) : ordR R a b = true := by
  unfold ordR
  rw [List.all_eq_true]
  intro r hr
  obtain ⟨i, hi, rfl⟩ := List.getElem_of_mem hr
  have := h i hi
  rw [getD_of hi] at this
  exact decide_eq_true this
set_option maxRecDepth 20000 in
set_option maxHeartbeats 2000000 in
theorem ROrd1_ac (n : Nat) (R : List (List Nat)) (hn : n ≤ 10) (hl : R.length ≤ 10) (hp : ∀ r ∈ R, r.Perm (List.range n)) (a b : Nat) (ha : a < n) (hb : b < n) :
    AC Try.prog 30 [.val (.int .i64 a), .val (.int .i64 b), .rpt [.sl 1 (rowc (tn R))] 0] [] (.val (.bool (ordR R a b))) [] := by
  have hTl := tn_len R
  refine AC.mk (n := 26) (fn := Try.f30) Try.func30 (by kernel_rfl) rfl rfl rfl rfl (fun cx => ?_); dsimp only [argv, Nat.reduceAdd]
  (repeat' (first | refine a_seq ?_ | refine a_block ?_ | refine a_region ?_ | refine l_nil ?_ | (apply w_q; (focus (first | exact Q_assign (by conv => lhs; whnf))); (focus exact rfl)))); (try all_goals (try show retA _ _ _ _ _ _ _))
  refine w_loop (X := Nat) [0, 1, 2] (by simp only [keepv, getv_cons, Nat.reduceEqDiff, ↓reduceIte]; exact rfl) (fun i => [(6, .val (.int .i64 (i : Nat)))]) (fun _ => []) (fun i => i ≤ R.length ∧ ∀ k, k < i → (R.getD k []).idxOf a < (R.getD k []).idxOf b) (fun i => R.length - i) (0) ([]) ?_ ?_ rfl ?_ <;> (try dsimp only [List.cons_append, List.nil_append])
  · exact ⟨Nat.zero_le _, fun _ h => by omega⟩
  · (refine St.le_mk rfl (VwOs.mk (by decide) ?_) ?_ <;> (repeat' (first | exact trivial | exact vwR rfl | refine ⟨?_, ?_⟩ )))
  rintro i ⟨hi, hall⟩
  by_cases hil : i < R.length
  · have hper := hp (R.getD i []) (by rw [getD_of hil]; exact List.getElem_mem hil)
    have hrl : (R.getD i []).length = n := by rw [hper.length_eq, List.length_range]
    have hma : a ∈ R.getD i [] := hper.mem_iff.2 (List.mem_range.2 ha)
    have hmb : b ∈ R.getD i [] := hper.mem_iff.2 (List.mem_range.2 hb)
    have k1 := PlaceC_ac ((tn R).getD i []) (a : Int) (by rw [tn_get, nl_len]; omega)
    have k2 := PlaceC_ac ((tn R).getD i []) (b : Int) (by rw [tn_get, nl_len]; omega)
    rw [show idx (fun y => decide (y = (a : Int))) ((tn R).getD i []) = ((R.getD i []).idxOf a : Int) by rw [tn_get, idx_of, if_pos hma]] at k1
    rw [show idx (fun y => decide (y = (b : Int))) ((tn R).getD i []) = ((R.getD i []).idxOf b : Int) by rw [tn_get, idx_of, if_pos hmb]] at k2
    by_cases hlt : (R.getD i []).idxOf a < (R.getD i []).idxOf b
    · have hN : ∀ k, k < i + 1 → (R.getD k []).idxOf a < (R.getD k []).idxOf b := fun k hk => by
        by_cases e : k = i
        · subst e; exact hlt
        · exact hall k (by omega)
      generalize (R.getD i []).idxOf a = p at *
      generalize (R.getD i []).idxOf b = q at *
      (repeat' (first | refine a_seq ?_ | refine a_block ?_ | refine a_skip ?_ | refine a_region ?_ | refine l_nil ?_ | refine q_nil ?_ | ((first | apply w_q | apply w_qq); (focus (first | exact Q_move (by conv => lhs; whnf) | exact Q_assign (by conv => lhs; whnf) | exact Q_lss rfl rfl | exact Q_geq rfl rfl | exact Q_add rfl rfl (by omega) | exact Q_ix_rows rfl rfl rfl KSl.h (by omega) | exact Q_ld_rs rfl rfl KSc.h | exact Q_ld_rows rfl (by omega) KSc.h | exact Q_len_rows rfl KSl.h)); (focus exact rfl)) | (refine a_cond rfl ?_ ?_ <;> (intro h; (try (have hp := of_decide_eq_true h)); (try (have hp := of_decide_eq_false h)); (try contradiction); (try (exfalso; omega)))) | refine a_draw (by kernel_rfl) (by kernel_rfl) ?_ | (((first | apply w_qq); (focus (refine Q_call (.inl ⟨rfl, rfl⟩) (k1) ?_; ((repeat' (first | exact trivial | exact vwRL rfl | exact Vw.ro _ | refine ⟨?_, ?_⟩ )); done))); (focus exact rfl))) | (((first | apply w_qq); (focus (refine Q_call (.inl ⟨rfl, rfl⟩) (k2) ?_; ((repeat' (first | exact vwRL rfl | exact Vw.ro _ | refine ⟨?_, ?_⟩ )); done))); (focus exact rfl))))); (try all_goals (try show retA _ _ _ _ _ _ _))
      all_goals first
        | (exfalso; omega)
        | (refine ⟨i + 1, [], ?_, ?_, ?_, rfl⟩ <;> (try dsimp only)
           · exact ⟨by omega, hN⟩
           · omega
           · (refine St.le_mk rfl (VwOs.mk (by decide) ?_) ?_ <;> (repeat' (first | exact trivial | exact vwR rfl | refine ⟨?_, ?_⟩ ))))
        | (all_goals trace_state); fail
    · rw [ordR_bad hil hlt]
      generalize (R.getD i []).idxOf a = p at *
      generalize (R.getD i []).idxOf b = q at *
      (repeat' (first | refine a_seq ?_ | refine a_block ?_ | refine a_skip ?_ | refine a_ret ?_ | refine a_region ?_ | refine l_nil ?_ | refine q_nil ?_ | ((first | apply w_q | apply w_qq); (focus (first | exact Q_move (by conv => lhs; whnf) | exact Q_assign (by conv => lhs; whnf) | exact Q_lss rfl rfl | exact Q_geq rfl rfl | exact Q_ix_rows rfl rfl rfl KSl.h (by omega) | exact Q_ld_rs rfl rfl KSc.h | exact Q_ld_rows rfl (by omega) KSc.h | exact Q_len_rows rfl KSl.h)); (focus exact rfl)) | (refine a_cond rfl ?_ ?_ <;> (intro h; (try (have hp := of_decide_eq_true h)); (try (have hp := of_decide_eq_false h)); (try contradiction); (try (exfalso; omega)))) | refine a_draw (by kernel_rfl) (by kernel_rfl) ?_ | (((first | apply w_qq); (focus (refine Q_call (.inl ⟨rfl, rfl⟩) (k1) ?_; ((repeat' (first | exact trivial | exact vwRL rfl | exact Vw.ro _ | refine ⟨?_, ?_⟩ )); done))); (focus exact rfl))) | (((first | apply w_qq); (focus (refine Q_call (.inl ⟨rfl, rfl⟩) (k2) ?_; ((repeat' (first | exact vwRL rfl | exact Vw.ro _ | refine ⟨?_, ?_⟩ )); done))); (focus exact rfl))))); (try all_goals (try show retA _ _ _ _ _ _ _))
      all_goals first
        | (exfalso; omega)
        | (refine ⟨[_], [], ⟨resV_tmp (by conv => lhs; whnf), trivial⟩, VwOs.mk (by decide) trivial, ?_, rfl⟩; (repeat' (first | exact vwR rfl)); done)
        | (all_goals trace_state); fail
  · rw [ordR_good fun k hk => hall k (by omega)]
    (repeat' (first | refine a_seq ?_ | refine a_ret ?_ | refine a_exit ?_ | refine a_region ?_ | refine l_nil ?_ | (apply w_q; (focus (first | exact Q_move (by conv => lhs; whnf) | exact Q_assign (by conv => lhs; whnf) | exact Q_lss rfl rfl | exact Q_ld_rs rfl rfl KSc.h | exact Q_len_rows rfl KSl.h)); (focus exact rfl)) | (refine a_cond rfl ?_ ?_ <;> (intro h; (try (have hp := of_decide_eq_true h)); (try (have hp := of_decide_eq_false h)); (try contradiction); (try (exfalso; omega)))))); (try all_goals (try show retA _ _ _ _ _ _ _))
    all_goals first
      | (exfalso; omega)
      | (refine ⟨[_], [], ⟨resV_tmp (by conv => lhs; whnf), trivial⟩, VwOs.mk (by decide) trivial, ?_, rfl⟩; (repeat' (first | exact vwR rfl)); done)
      | (all_goals trace_state); fail
set_option maxRecDepth 20000 in
set_option maxHeartbeats 4000000 in
theorem ROrd_ac (n : Nat) (rows' : List (List Int)) (hn : n ≤ 10) (hl : 0 < rows'.length) (hl2 : rows'.length ≤ 10) (hr : ∀ i, i < rows'.length → (rows'.getD i []).length ≤ 9223372036854775807) (b : Bool) (hb : rows'.all (pmB n) = b) :
    AC Try.prog 16 [.val (.int .i64 n), rows rows'] [] (.tup [bif b then ordv n (nl (ofn n (ordR (natR rows')))) else ordv 0 [], .val (.int .i64 (bif b then 0 else 1))]) [] := by
  have hbad : ∀ i, i < rows'.length → pmB n (rows'.getD i []) = false → b = false := fun i hi h => by
    rw [← hb, List.all_eq_false]
    exact ⟨rows'.getD i [], by rw [getD_of hi]; exact List.getElem_mem hi, by rw [h]; decide⟩
  have hgood : (∀ i, i < rows'.length → pmB n (rows'.getD i []) = true) → b = true := fun h => by
    rw [← hb, List.all_eq_true]
    intro x hx
    obtain ⟨i, hi, rfl⟩ := List.getElem_of_mem hx
    rw [← getD_of hi []]; exact h i hi
  have hO : b = true → AC Try.prog 29 [.val (.int .i64 n), .clo 30 [.rpt [.sl 1 (rowc rows')] 0]] [] (ordv n (nl (ofn n (ordR (natR rows'))))) [] := by
    intro hbt
    have hall := List.all_eq_true.1 (hb.trans hbt)
    have e : rows' = tn (natR rows') := by
      unfold tn natR
      rw [List.map_map]
      have : rows'.map (nl ∘ fun r => r.map Int.toNat) = rows'.map id := List.map_congr_left fun x hx => (natR_row (hall x hx)).1.symm
      rw [this, List.map_id]
    have hper : ∀ r ∈ natR rows', r.Perm (List.range n) := fun r hr => by
      obtain ⟨x, hx, rfl⟩ := List.mem_map.1 hr
      exact (natR_row (hall x hx)).2
    have h1 := ROrd1_ac n (natR rows') hn (by unfold natR; rw [List.length_map]; exact hl2) hper
    rw [← e] at h1
    exact AC.vw0 (OrderOf_ac n (ordR (natR rows')) (by omega) (isFn_clo _ _) fun a b ha hb => h1 a b ha hb) (by (repeat' (first | exact trivial | exact vwR rfl | exact Vw.rowro _ _ _ _ rfl (by decide) | refine Vw.agg' ?_ | refine ⟨?_, ?_⟩ )))
  generalize ofn n (ordR (natR rows')) = C at *
  refine AC.mk (n := 41) (fn := Try.f16) Try.func16 (by kernel_rfl) rfl rfl rfl rfl (fun cx => ?_); dsimp only [argv, Nat.reduceAdd]
  (repeat' (first | refine a_seq ?_ | refine a_region ?_ | refine l_nil ?_ | (apply w_q; (focus (first | exact Q_assign (by conv => lhs; whnf))); (focus exact rfl)) | refine w_box1 (by conv => lhs; whnf) rfl rfl (by first|(dsimp only[obA,obB,obD,obE,obF,obG,obI,List.map,AO.sh,AV.sh,AV.shl,Nat.reduceAdd];done)|exact rfl) (by first|(dsimp only[obA,obB,obD,obE,obF,obG,obI,List.map,AO.sh,AV.sh,AV.shl,Nat.reduceAdd];done)|exact rfl) rfl ?_ | refine w_alloc KMk.h (by first|(dsimp only[obA,obB,obD,obE,obF,obG,obI,List.map,AO.sh,AV.sh,AV.shl,Nat.reduceAdd];done)|exact rfl) rfl (by first|(dsimp only[obA,obB,obD,obE,obF,obG,obI,List.map,AO.sh,AV.sh,AV.shl,Nat.reduceAdd];done)|exact rfl) (by first|(dsimp only[obA,obB,obD,obE,obF,obG,obI,List.map,AO.sh,AV.sh,AV.shl,Nat.reduceAdd];done)|exact rfl) rfl ?_)); (try all_goals (try show retA _ _ _ _ _ _ _))
  refine w_freezeB 0 [.sl 1 (rowc rows')] rfl rfl (by simp only [fbv_nil, fbv_cons, fbl_nil, fbl_cons, fbo_nil, fbo_cons, fbo_box, fbo_row, fbo_gone, fb_own, fb_val, fb_ro, fb_rpt, fb_ptr, fb_ept, fb_agg, fb_tup, fb_clo, fb_ints, fb_rows, fb_pairs, fb_ords, Nat.reduceEqDiff, ↓reduceIte, List.set_cons_zero, List.set_cons_succ]; exact rfl) (by simp only [fbv_nil, fbv_cons, fbl_nil, fbl_cons, fbo_nil, fbo_cons, fbo_box, fbo_row, fbo_gone, fb_own, fb_val, fb_ro, fb_rpt, fb_ptr, fb_ept, fb_agg, fb_tup, fb_clo, fb_ints, fb_rows, fb_pairs, fb_ords, Nat.reduceEqDiff, ↓reduceIte, List.set_cons_zero, List.set_cons_succ]; exact rfl) ?_
  (repeat' (first | refine a_seq ?_ | refine a_block ?_ | refine a_skip ?_ | refine a_region ?_ | refine l_nil ?_ | (apply w_q; (focus (first | exact Q_move (by conv => lhs; whnf) | exact Q_assign (by conv => lhs; whnf) | exact Q_lss rfl rfl | exact Q_gtr rfl rfl | exact Q_eql rfl rfl | exact Q_ld_rs rfl rfl KSc.h | exact Q_len_rows rfl KSl.h | exact Q_pick_f rfl (by assumption) (by conv => lhs; whnf) | exact Q_pick_f rfl rfl (by conv => lhs; whnf))); (focus exact rfl)) | (refine a_cond rfl ?_ ?_ <;> (intro h; (try (have hp := of_decide_eq_true h)); (try (have hp := of_decide_eq_false h)); (try contradiction); (try (exfalso; omega)))) | refine w_guard_y rfl rfl rfl (by first | assumption | rfl) ?_ | (refine w_guard rfl rfl rfl ?_ ?_ <;> (intro h; (try (have hp := of_decide_eq_true h)); (try (have hp := of_decide_eq_false h)); (try contradiction); (try (exfalso; omega)))))); (try all_goals (try show retA _ _ _ _ _ _ _))
  all_goals first
    | (exfalso; omega)
    | skip
  refine w_loop (X := Nat) [0, 3, 4] (by simp only [keepv, getv_cons, Nat.reduceEqDiff, ↓reduceIte]; exact rfl) (fun i => [(6, .val (.int .i64 (i : Nat)))]) (fun _ => [.gone, .box [.val (.int .i64 0), .val (.slice none 0 0)]]) (fun i => i ≤ rows'.length ∧ ∀ k, k < i → pmB n (rows'.getD k []) = true) (fun i => rows'.length - i) (0) ([0, 1]) ?_ ?_ rfl ?_ <;> (try dsimp only [List.cons_append, List.nil_append])
  · exact ⟨Nat.zero_le _, fun _ h => by omega⟩
  · (refine St.le_mk rfl (VwOs.mk (by decide) ?_) ?_ <;> (repeat' (first | exact trivial | exact vwR rfl | exact Vw.ptr _ _ _ rfl | refine VwO.box' ?_ | exact VwO.gone _ | refine ⟨⟨_, rfl, ?_⟩, ?_⟩ | refine ⟨?_, ?_⟩ )))
  rintro i ⟨hi, hall⟩
  by_cases hil : i < rows'.length
  · have kR := IsPerm_ac n (rows'.getD i []) hn (hr i hil)
    cases hpm : pmB n (rows'.getD i [])
    · have hbf := hbad i hil hpm
      rw [hpm] at kR
      subst hbf
      (repeat' (first | refine a_seq ?_ | refine a_block ?_ | refine a_skip ?_ | refine a_ret ?_ | refine a_region ?_ | refine l_nil ?_ | (apply w_q; (focus (first | exact Q_move (by conv => lhs; whnf) | exact Q_assign (by conv => lhs; whnf) | exact Q_lss rfl rfl | exact Q_ix_rows rfl rfl rfl KSl.h (by omega) | exact Q_ld_rs rfl rfl KSc.h | exact Q_ld_rows rfl (by omega) KSc.h | exact Q_build0 KBd.h (by simp only [List.map_cons, List.map_nil, List.take_succ_cons, List.take_zero, List.drop_succ_cons, List.drop_zero, List.drop_nil, List.nil_append, List.cons_append, List.append_nil, List.length_cons, List.length_nil, Nat.reduceAdd, Nat.reduceMul]; exact rfl) | exact Q_len_rows rfl KSl.h | exact Q_not rfl)); (focus exact rfl)) | (refine a_cond rfl ?_ ?_ <;> (intro h; (try (have hp := of_decide_eq_true h)); (try (have hp := of_decide_eq_false h)); (try contradiction); (try (exfalso; omega)))) | refine w_store_all rfl rfl rfl rfl rfl KSz.h (by first|(dsimp only[obA,obB,obD,obE,obF,obG,obI,List.map,AO.sh,AV.sh,AV.shl,Nat.reduceAdd];done)|exact rfl) ?_ | (((first | apply w_q); (focus (refine Q_call (.inl ⟨rfl, rfl⟩) (kR) ?_; ((repeat' (first | exact trivial | exact vwR rfl | exact Vw.ro _ | refine ⟨?_, ?_⟩ )); done))); (focus exact rfl))))); (try all_goals (try show retA _ _ _ _ _ _ _))
      all_goals first
        | (exfalso; omega)
        | (dsimp only [cond]; refine ⟨[_, _], [], ⟨resV_cell rfl rfl KAg.h, resV_tmp (by conv => lhs; whnf), trivial⟩, VwOs.mk (by decide) trivial, ?_, rfl⟩; (repeat' (first | exact trivial | exact vwR rfl | exact vwRL rfl | exact Vw.nilro _ | refine Vw.agg' ?_ | refine Vw.tup' ?_ | refine ⟨?_, ?_⟩ )); done)
        | (all_goals trace_state); fail
    · rw [hpm] at kR
      (repeat' (first | refine a_seq ?_ | refine a_block ?_ | refine a_skip ?_ | refine a_region ?_ | refine l_nil ?_ | (apply w_q; (focus (first | exact Q_move (by conv => lhs; whnf) | exact Q_assign (by conv => lhs; whnf) | exact Q_lss rfl rfl | exact Q_add rfl rfl (by omega) | exact Q_ix_rows rfl rfl rfl KSl.h (by omega) | exact Q_ld_rs rfl rfl KSc.h | exact Q_ld_rows rfl (by omega) KSc.h | exact Q_len_rows rfl KSl.h | exact Q_not rfl)); (focus exact rfl)) | (refine a_cond rfl ?_ ?_ <;> (intro h; (try (have hp := of_decide_eq_true h)); (try (have hp := of_decide_eq_false h)); (try contradiction); (try (exfalso; omega)))) | (((first | apply w_q); (focus (refine Q_call (.inl ⟨rfl, rfl⟩) (kR) ?_; ((repeat' (first | exact trivial | exact vwR rfl | exact Vw.ro _ | refine ⟨?_, ?_⟩ )); done))); (focus exact rfl))))); (try all_goals (try show retA _ _ _ _ _ _ _))
      all_goals first
        | (exfalso; omega)
        | (refine ⟨i + 1, [0, 1], ?_, ?_, ?_, rfl⟩ <;> (try dsimp only)
           · exact ⟨by omega, fun k hk => by
               by_cases e : k = i
               · subst e; exact hpm
               · exact hall k (by omega)⟩
           · omega
           · (refine St.le_mk rfl (VwOs.mk (by decide) ?_) ?_ <;> (repeat' (first | exact trivial | exact vwR rfl | exact Vw.ptr _ _ _ rfl | refine VwO.box' ?_ | exact VwO.gone _ | refine ⟨⟨_, rfl, ?_⟩, ?_⟩ | refine ⟨?_, ?_⟩ ))))
        | (all_goals trace_state); fail
  · have ei : i = rows'.length := by omega
    subst ei
    have hbt := hgood hall
    replace hO := hO hbt
    subst hbt
    (repeat' (first | refine a_seq ?_ | refine a_ret ?_ | refine a_exit ?_ | refine a_region ?_ | refine l_nil ?_ | (apply w_q; (focus (first | exact Q_move (by conv => lhs; whnf) | exact Q_assign (by conv => lhs; whnf) | exact Q_lss rfl rfl | exact Q_ld_rs rfl rfl KSc.h | exact Q_len_rows rfl KSl.h | exact Q_clo1 (by conv => lhs; whnf))); (focus exact rfl)) | (refine a_cond rfl ?_ ?_ <;> (intro h; (try (have hp := of_decide_eq_true h)); (try (have hp := of_decide_eq_false h)); (try contradiction); (try (exfalso; omega)))) | refine w_store_all rfl rfl rfl rfl rfl KSz.h (by first|(dsimp only[obA,obB,obD,obE,obF,obG,obI,List.map,AO.sh,AV.sh,AV.shl,Nat.reduceAdd];done)|exact rfl) ?_ | ((refine w_callV (.inl ⟨rfl, rfl⟩) (hO) ?_ (by first | (dsimp only [AV.sh, AV.shl, sh_ints, sh_rows, sh_pairs, sh_ords]; done) | exact rfl) rfl ?_; rotate_left 0; (focus ((repeat' (first | exact trivial | exact Vs.val _ | exact Vs.rpt _ _ | refine Vs.clo' ?_ | refine ⟨?_, ?_⟩)); done)); rotate_left 1; all_goals (try (skip)))))); (try all_goals (try show retA _ _ _ _ _ _ _))
    all_goals first
      | (exfalso; omega)
      | (dsimp only [cond]; refine ⟨[_, _], [], ⟨resV_cell rfl rfl KAg.h, resV_tmp (by conv => lhs; whnf), trivial⟩, VwOs.mk (by decide) trivial, ?_, rfl⟩; (repeat' (first | exact trivial | exact vwR rfl | exact vwRL rfl | exact Vw.ro _ | refine Vw.agg' ?_ | refine Vw.tup' ?_ | refine ⟨?_, ?_⟩ )); done)
      | (all_goals trace_state); fail
theorem dim_two : covN 2 [0, 0] 1 (apL 2 [0, 0]) = some [[1, 0], [0, 1]] ∧ covN 2 [0, 0] 0 (apL 2 [0, 0]) = none := by
  refine ⟨?_, ?_⟩ <;> decide +kernel
set_option maxRecDepth 20000 in
set_option maxHeartbeats 2000000 in
theorem rzbegun_ac : AC Try.prog 6 [] [] (.val (.bool true)) [] := by
  have hv : Vld 2 [0, 0] := ⟨rfl, by simp⟩
  have hlast : ∀ j, j < 1 → covN 2 [0, 0] j (apL 2 [0, 0]) = none := fun j hj => (by omega : j = 0) ▸ dim_two.2
  have k1 : AC Try.prog 4 [ordv 2 [0, 0]] [] (.tup [.val (.int .i64 2), rows [[1, 0], [0, 1]], .val (.int .i64 0)]) [] := Dim_ok 2 [0, 0] (by decide) hv (by decide) 1 _ dim_two.1 (by decide) hlast
  have k2 := Of_many 1 [] (by simp) (.inr (.inr (.inl rfl)))
  refine AC.mk (n := 32) (fn := Try.f6) Try.func6 (by kernel_rfl) rfl rfl rfl rfl (fun cx => ?_); dsimp only [argv, Nat.reduceAdd]
  (repeat' (first | refine a_seq ?_ | refine a_ret ?_ | refine a_region ?_ | refine l_nil ?_ | (apply w_q; (focus (first | exact Q_move (by conv => lhs; whnf) | exact Q_assign (by conv => lhs; whnf) | exact Q_eql rfl rfl | exact Q_build2 KBd.h (by conv => lhs; whnf) (by conv => lhs; whnf) rfl rfl rfl (by simp only [List.map_cons, List.map_nil, List.take_succ_cons, List.take_zero, List.drop_succ_cons, List.drop_zero, List.drop_nil, List.nil_append, List.cons_append, List.append_nil, List.length_cons, List.length_nil, Nat.reduceAdd, Nat.reduceMul]; exact rfl) (by conv => lhs; whnf) (by conv => lhs; whnf) rfl rfl rfl (by simp only [List.map_cons, List.map_nil, List.take_succ_cons, List.take_zero, List.drop_succ_cons, List.drop_zero, List.drop_nil, List.nil_append, List.cons_append, List.append_nil, List.length_cons, List.length_nil, Nat.reduceAdd, Nat.reduceMul]; exact rfl) | exact Q_len_rows rfl KSl.h | exact Q_extract rfl (by conv => lhs; whnf) | exact Q_pick_t rfl rfl (by conv => lhs; whnf))); (focus exact rfl)) | refine w_guard_y rfl rfl rfl (by first | assumption | rfl) ?_ | refine w_alloc KMk.h (by first|(dsimp only[obA,obB,obD,obE,obF,obG,obI,List.map,AO.sh,AV.sh,AV.shl,Nat.reduceAdd];done)|exact rfl) rfl (by first|(dsimp only[obA,obB,obD,obE,obF,obG,obI,List.map,AO.sh,AV.sh,AV.shl,Nat.reduceAdd];done)|exact rfl) (by first|(dsimp only[obA,obB,obD,obE,obF,obG,obI,List.map,AO.sh,AV.sh,AV.shl,Nat.reduceAdd];done)|exact rfl) rfl ?_ | refine w_store_all rfl rfl rfl rfl rfl KSz.h (by first|(dsimp only[obA,obB,obD,obE,obF,obG,obI,List.map,AO.sh,AV.sh,AV.shl,Nat.reduceAdd];done)|exact rfl) ?_ | refine w_lit_i2 rfl rfl KSl.h KMk.h (by first|(dsimp only[obA,obB,obD,obE,obF,obG,obI,List.map,AO.sh,AV.sh,AV.shl,Nat.reduceAdd];done)|exact rfl) (by first|(dsimp only[obA,obB,obD,obE,obF,obG,obI,List.map,AO.sh,AV.sh,AV.shl,Nat.reduceAdd];done)|exact rfl) rfl ?_ | ((refine w_freezeA 0 rfl (by simp only [frv_nil, frv_cons, frl_nil, frl_cons, fro_nil, fro_cons, fro_box, fro_row, fro_gone, fr_own, fr_val, fr_ro, fr_rpt, fr_ptr, fr_ept, fr_agg, fr_tup, fr_clo, fr_ints, fr_rows, fr_pairs, fr_ords, Nat.reduceEqDiff, ↓reduceIte, List.set_cons_zero, List.set_cons_succ]; exact rfl) (by simp only [frv_nil, frv_cons, frl_nil, frl_cons, fro_nil, fro_cons, fro_box, fro_row, fro_gone, fr_own, fr_val, fr_ro, fr_rpt, fr_ptr, fr_ept, fr_agg, fr_tup, fr_clo, fr_ints, fr_rows, fr_pairs, fr_ords, Nat.reduceEqDiff, ↓reduceIte, List.set_cons_zero, List.set_cons_succ]; exact rfl) ?_; (refine w_callV (.inl ⟨rfl, rfl⟩) (k1) ?_ (by first | (dsimp only [AV.sh, AV.shl, sh_ints, sh_rows, sh_pairs, sh_ords]; done) | exact rfl) rfl ?_; rotate_left 0; (focus ((repeat' (first | exact trivial | exact Vs.val _ | exact Vs.ro _ | refine Vs.agg' ?_ | refine ⟨?_, ?_⟩)); done)); rotate_left 1; all_goals (try (skip))))) | ((refine w_callV (.inl ⟨rfl, rfl⟩) (k2) ?_ (by first | (dsimp only [AV.sh, AV.shl, sh_ints, sh_rows, sh_pairs, sh_ords]; done) | exact rfl) rfl ?_; rotate_left 0; (focus ((repeat' (first | exact trivial | exact Vs.val _ | exact Vs.nilro _ | refine ⟨?_, ?_⟩)); done)); rotate_left 1; all_goals (try (skip)))))); (try all_goals (try show retA _ _ _ _ _ _ _))
  all_goals first
    | (exfalso; simp at *; done)
    | (refine ⟨[_], [], ⟨resV_tmp (by conv => lhs; whnf), trivial⟩, VwOs.mk (by decide) trivial, ?_, rfl⟩; (repeat' (first | exact vwR rfl)); done)
    | (all_goals trace_state); fail
end Go.Proofs.Ytgojkabjgagjcaa
