import Derived.Test.YtbgecpjlopdkfaaDoorSsg
import Derived.Test.YtbgecpjlopdkfaaDoorGc
set_option linter.unusedSimpArgs false
set_option linter.unusedVariables false
set_option linter.unusedSectionVars false
set_option maxRecDepth 20000
namespace Go.Proofs.YtbgecpjlopdkfaaDoor
attribute [local irreducible] QOp aL aC qL
theorem kx_rng (l : List Tr) (a : Int) : ∀ m, kx l a m = -1 ∨ ∃ x : Nat, x < m ∧ kx l a m = x
  | 0 => .inl rfl
  | m + 1 => by
    unfold kx
    split
    · exact .inr ⟨m, by omega, rfl⟩
    · rcases kx_rng l a m with h | ⟨x, h1, h2⟩
      · exact .inl h
      · exact .inr ⟨x, by omega, h2⟩
set_option maxRecDepth 20000 in
set_option maxHeartbeats 4000000 in
theorem termLess_ac : ∀ (d : Nat) (k p : Int) (l : List Tr) (a b : Int), 1 + kdep l ≤ d → 1 + kcnt l ≤ 100000000 → AC Tryd.prog 67 [ta3 k p l, .val (.int .i64 a), .val (.int .i64 b)] [] (.val (.bool (tls d (.mk k p l) a b))) []
  | 0, k, p, l, a, b, hd, _ => by omega
  | d + 1, k, p, l, a, b, hd, hb => by
    have ih := termLess_ac d
    have hll := kcnt_len l
    have hu : tls (d + 1) (.mk k p l) a b = if kx l a l.length < 0 ∨ kx l a l.length = kx l b l.length then decide (0 ≤ kx l a l.length) && tls d (l.getD (kx l a l.length).toNat t000) a b else decide (k = 3) && decide (kx l a l.length < kx l b l.length) := by
      conv => lhs; unfold tls
    rw [hu]
    clear hu
    unfold ta3 at ih ⊢
    refine AC.mk (n := 61) (fn := Tryd.f67) Tryd.func67 (by kernel_rfl) rfl rfl rfl rfl (fun cx => ?_); dsimp only [argv, Nat.reduceAdd]
    (repeat' (first | refine a_seq ?_ | refine a_block ?_ | refine a_region ?_ | refine l_nil ?_ | (apply w_q; (focus (first | exact Q_assign (by conv => lhs; whnf))); (focus exact rfl)) | refine w_box rfl rfl (by first|(dsimp only[obA,obB,obD,obE,obF,obG,obI,List.map,AO.sh,AV.sh,AV.shl,Nat.reduceAdd];done)|exact rfl) (by first|(dsimp only[obA,obB,obD,obE,obF,obG,obI,List.map,AO.sh,AV.sh,AV.shl,Nat.reduceAdd];done)|exact rfl) rfl ?_)); (try all_goals (try show retA _ _ _ _ _ _ _))
    refine w_loop (X := Nat) [1, 2, 3] (by simp only [keepv, getv_cons, Nat.reduceEqDiff, ↓reduceIte]; exact rfl) (fun i => [(7, .val (.int .i64 (kx l a i))), (8, .val (.int .i64 (kx l b i))), (9, .val (.int .i64 (i : Nat)))]) (fun i => [.box [.val (.int .i64 k), .val (.int .i64 p), tks l]]) (fun i => i ≤ l.length) (fun i => l.length - i) (0) ([0]) ?_ ?_ rfl ?_ <;> (try dsimp only [List.cons_append, List.nil_append])
    · exact Nat.zero_le _
    · (refine St.le_mk rfl (VwOs.mk (by decide) ?_) ?_ <;> (repeat' (first | exact trivial | exact vwR rfl | exact Vw.ro _ | exact Vw.ptr _ _ _ rfl | refine VwO.box' ?_ | refine ⟨⟨_, rfl, ?_⟩, ?_⟩ | refine ⟨?_, ?_⟩ )))
    rintro i hi
    by_cases hil : i < l.length
    · have hmo := kcnt_mono l (i + 1)
      have htc := kcnt_take hil
      have hsa : kx l a (i + 1) = if a ∈ (l.getD i t000).pts then (i : Int) else kx l a i := rfl
      have hsb : kx l b (i + 1) = if b ∈ (l.getD i t000).pts then (i : Int) else kx l b i := rfl
      have eg : l.getD i t000 = l[i] := by rw [List.getD_eq_getElem?_getD, List.getElem?_eq_getElem hil]; rfl
      rw [eg] at hsa hsb
      have hpc := pts_cnt l[i]
      rcases hk : l[i] with ⟨k1, p1, r⟩
      rw [hk] at htc hsa hsb hpc
      have c1 : (Tr.mk k1 p1 r).cnt = 1 + kcnt r := by unfold Tr.cnt; rfl
      have k2 := AC.vw0 (TermPoints_ac (1 + kdep r) k1 p1 r (Nat.le_refl _) (by omega)) (res2 := ints (Tr.mk k1 p1 r).pts) (by (repeat' (first | exact Vw.rowro _ _ _ _ rfl (by decide))))
      have kA := PlaceX_ac (Tr.mk k1 p1 r).pts a (by omega)
      have kB := PlaceX_ac (Tr.mk k1 p1 r).pts b (by omega)
      have mA := idxX_mem (L := (Tr.mk k1 p1 r).pts) (k := a)
      have mB := idxX_mem (L := (Tr.mk k1 p1 r).pts) (k := b)
      have b3 : l.length ≤ 100000000 := by omega
      generalize (Tr.mk k1 p1 r).pts = L at *
      generalize idx (fun y => decide (y = a)) L = va at *
      generalize idx (fun y => decide (y = b)) L = vb at *
      unfold ta3 at k2
      rcases Classical.em (a ∈ L) with ha | ha <;> rcases Classical.em (b ∈ L) with hb' | hb'
      all_goals
        first
          | rw [if_pos ha] at hsa
          | rw [if_neg ha] at hsa
        first
          | rw [if_pos hb'] at hsb
          | rw [if_neg hb'] at hsb
        clear ih htc hpc c1
        (repeat' (first | refine a_seq ?_ | refine a_block ?_ | refine a_skip ?_ | refine a_region ?_ | refine l_nil ?_ | (apply w_q; (focus (first | exact Q_move (by conv => lhs; whnf) | exact Q_assign (by conv => lhs; whnf) | exact Q_fieldAddr_ptr rfl KFl.h | exact Q_load_ptr rfl rfl rfl KSc.h | exact Q_lss rfl rfl | exact Q_geq rfl rfl | exact Q_add rfl rfl (by omega))); (focus exact rfl)) | (refine a_cond rfl ?_ ?_ <;> (intro h; (try (have hp := of_decide_eq_true h)); (try (have hp := of_decide_eq_false h)); (try contradiction); (try (exfalso; omega)))) | (((first | apply w_q); (focus exact Q_len_kid rfl KSl.h); (focus exact rfl))) | (((first | apply w_q); (focus exact Q_ix_kid rfl rfl rfl KSl.h hil); (focus exact rfl))) | (((first | apply w_q); (focus exact Q_ld_kid rfl hil hk KAg.h); (focus exact rfl))) | ((refine w_callV (.inl ⟨rfl, rfl⟩) (k2) ?_ (by first | (dsimp only [AV.sh, AV.shl, sh_ints, sh_rows, sh_pairs, sh_ords]; done) | exact rfl) rfl ?_; rotate_left 0; (focus ((repeat' (first | exact trivial | exact Vs.val _ | exact Vs.ro _ | refine Vs.agg' ?_ | refine ⟨?_, ?_⟩)); done)); rotate_left 1; all_goals (try (skip)))) | (((first | apply w_q); (focus (refine Q_call (.inl ⟨rfl, rfl⟩) (kA) ?_; ((repeat' (first | exact trivial | exact vwRL rfl | exact Vw.ro _ | refine ⟨?_, ?_⟩ )); done))); (focus exact rfl))) | (((first | apply w_q); (focus (refine Q_call (.inl ⟨rfl, rfl⟩) (kB) ?_; ((repeat' (first | exact vwRL rfl | exact Vw.ro _ | refine ⟨?_, ?_⟩ )); done))); (focus exact rfl))))); (try all_goals (try show retA _ _ _ _ _ _ _))
      all_goals first
        | (exfalso; omega)
        | (exfalso; simp_all; done)
        | (exfalso; simp_all; omega)
        | (try dsimp only [thenA, blockA]
           refine ⟨i + 1, [0], ?_, ?_, ?_, rfl⟩ <;> (try dsimp only)
           · omega
           · omega
           · rw [hsa, hsb]; (refine St.le_mk rfl (VwOs.mk (by decide) ?_) ?_ <;> (repeat' (first | exact trivial | exact vwR rfl | exact Vw.ro _ | exact Vw.ptr _ _ _ rfl | refine VwO.box' ?_ | refine ⟨⟨_, rfl, ?_⟩, ?_⟩ | refine ⟨?_, ?_⟩ ))))
        | (all_goals trace_state); fail
    · obtain rfl : i = l.length := by omega
      rcases kx_rng l a l.length with hX | ⟨x, hx, hX⟩
      · rw [hX]
        rw [if_pos (.inl (by omega)), show decide ((0 : Int) ≤ -1) = false from rfl, Bool.false_and]
        clear ih
        generalize kx l b l.length = Y at *
        (repeat' (first | refine a_seq ?_ | refine a_ret ?_ | refine a_exit ?_ | refine a_region ?_ | refine l_nil ?_ | (apply w_q; (focus (first | exact Q_move (by conv => lhs; whnf) | exact Q_assign (by conv => lhs; whnf) | exact Q_fieldAddr_ptr rfl KFl.h | exact Q_load_ptr rfl rfl rfl KSc.h | exact Q_lss rfl rfl | exact Q_geq rfl rfl | exact Q_pick_t rfl rfl (by conv => lhs; whnf) | exact Q_pick_f rfl rfl (by conv => lhs; whnf))); (focus exact rfl)) | (refine a_cond rfl ?_ ?_ <;> (intro h; (try (have hp := of_decide_eq_true h)); (try (have hp := of_decide_eq_false h)); (try contradiction); (try (exfalso; omega)))) | refine w_guard_n rfl rfl rfl (by first | assumption | rfl) ?_ | (((first | apply w_q); (focus exact Q_len_kid rfl KSl.h); (focus exact rfl))))); (try all_goals (try show retA _ _ _ _ _ _ _))
        all_goals first
          | (exfalso; omega)
          | (refine ⟨[_], [], ⟨resV_tmp (by conv => lhs; whnf), trivial⟩, VwOs.mk (by decide) trivial, ?_, rfl⟩; (repeat' (first | exact vwR rfl)); done)
          | (all_goals trace_state); fail
      · have hY := kx_rng l b l.length
        rw [hX]
        generalize kx l b l.length = Y at *
        have hY2 : -1 ≤ Y ∧ Y < l.length := by
          rcases hY with h | ⟨y, h1, h2⟩ <;> omega
        clear hY
        have eg : l.getD ((x : Nat) : Int).toNat t000 = l[x] := by rw [Int.toNat_natCast, List.getD_eq_getElem?_getD, List.getElem?_eq_getElem hx]; rfl
        rw [eg]
        have hdp := dep_kid hx
        have hmo := kcnt_mono l (x + 1)
        have htc := kcnt_take hx
        rcases hk : l[x] with ⟨k1, p1, r⟩
        rw [hk] at hdp htc
        have c1 : (Tr.mk k1 p1 r).cnt = 1 + kcnt r := by unfold Tr.cnt; rfl
        have c2 : (Tr.mk k1 p1 r).dep = 1 + kdep r := by unfold Tr.dep; rfl
        have call := ih k1 p1 r a b (by omega) (by omega)
        have b3 : l.length ≤ 100000000 := by omega
        clear ih hdp htc c1 c2 hmo
        generalize tls d (Tr.mk k1 p1 r) a b = V at *
        by_cases hXY : (x : Int) = Y
        · rw [if_pos (.inr hXY), decide_eq_true (show (0 : Int) ≤ (x : Int) by omega), Bool.true_and]
          (repeat' (first | refine a_seq ?_ | refine a_ret ?_ | refine a_exit ?_ | refine a_region ?_ | refine l_nil ?_ | (apply w_q; (focus (first | exact Q_move (by conv => lhs; whnf) | exact Q_assign (by conv => lhs; whnf) | exact Q_fieldAddr_ptr rfl KFl.h | exact Q_load_ptr rfl rfl rfl KSc.h | exact Q_lss rfl rfl | exact Q_geq rfl rfl | exact Q_eql rfl rfl | exact Q_pick_t rfl rfl (by conv => lhs; whnf) | exact Q_pick_f rfl rfl (by conv => lhs; whnf))); (focus exact rfl)) | (refine a_cond rfl ?_ ?_ <;> (intro h; (try (have hp := of_decide_eq_true h)); (try (have hp := of_decide_eq_false h)); (try contradiction); (try (exfalso; omega)))) | refine w_guard_y rfl rfl rfl (by first | assumption | rfl) ?_ | (((first | apply w_q); (focus exact Q_len_kid rfl KSl.h); (focus exact rfl))) | (((first | apply w_q); (focus exact Q_ix_kid rfl rfl rfl KSl.h hx); (focus exact rfl))) | (((first | apply w_q); (focus exact Q_ld_kid rfl hx hk KAg.h); (focus exact rfl))) | (((first | apply w_q); (focus (refine Q_call (.inl ⟨rfl, rfl⟩) (call) ?_; ((repeat' (first | exact trivial | exact vwR rfl | exact vwRL rfl | exact Vw.ro _ | refine Vw.agg' ?_ | refine ⟨?_, ?_⟩ )); done))); (focus exact rfl))))); (try all_goals (try show retA _ _ _ _ _ _ _))
          all_goals first
            | (exfalso; omega)
            | (refine ⟨[_], [], ⟨resV_tmp (by conv => lhs; whnf), trivial⟩, VwOs.mk (by decide) trivial, ?_, rfl⟩; (repeat' (first | exact vwR rfl)); done)
            | (all_goals trace_state); fail
        · rw [if_neg (by omega)]
          by_cases hk3 : k = 3
          · subst hk3
            rw [decide_eq_true (show (3 : Int) = 3 from rfl), Bool.true_and]
            (repeat' (first | refine a_seq ?_ | refine a_skip ?_ | refine a_ret ?_ | refine a_exit ?_ | refine a_region ?_ | refine l_nil ?_ | (apply w_q; (focus (first | exact Q_move (by conv => lhs; whnf) | exact Q_assign (by conv => lhs; whnf) | exact Q_fieldAddr_ptr rfl KFl.h | exact Q_load_ptr rfl rfl rfl KSc.h | exact Q_lss rfl rfl | exact Q_eql rfl rfl | exact Q_pick_t rfl rfl (by conv => lhs; whnf) | exact Q_pick_f rfl rfl (by conv => lhs; whnf))); (focus exact rfl)) | (refine a_cond rfl ?_ ?_ <;> (intro h; (try (have hp := of_decide_eq_true h)); (try (have hp := of_decide_eq_false h)); (try contradiction); (try (exfalso; omega)))) | refine w_guard_y rfl rfl rfl (by first | assumption | rfl) ?_ | (((first | apply w_q); (focus exact Q_len_kid rfl KSl.h); (focus exact rfl))))); (try all_goals (try show retA _ _ _ _ _ _ _))
            all_goals first
              | (exfalso; omega)
              | (refine ⟨[_], [], ⟨resV_tmp (by conv => lhs; whnf), trivial⟩, VwOs.mk (by decide) trivial, ?_, rfl⟩; (repeat' (first | exact vwR rfl)); done)
              | (refine ⟨[_], [], ⟨resV_tmp (by conv => lhs; whnf), trivial⟩, VwOs.mk (by decide) trivial, ?_, rfl⟩; exact Vw.bool' (by simp_all))
              | (all_goals trace_state); fail
          · rw [decide_eq_false hk3, Bool.false_and]
            (repeat' (first | refine a_seq ?_ | refine a_skip ?_ | refine a_ret ?_ | refine a_exit ?_ | refine a_region ?_ | refine l_nil ?_ | (apply w_q; (focus (first | exact Q_move (by conv => lhs; whnf) | exact Q_assign (by conv => lhs; whnf) | exact Q_fieldAddr_ptr rfl KFl.h | exact Q_load_ptr rfl rfl rfl KSc.h | exact Q_lss rfl rfl | exact Q_eql rfl rfl | exact Q_pick_f rfl (by assumption) (by conv => lhs; whnf) | exact Q_pick_f rfl rfl (by conv => lhs; whnf))); (focus exact rfl)) | (refine a_cond rfl ?_ ?_ <;> (intro h; (try (have hp := of_decide_eq_true h)); (try (have hp := of_decide_eq_false h)); (try contradiction); (try (exfalso; omega)))) | refine w_guard_y rfl rfl rfl (by first | assumption | rfl) ?_ | refine w_guard_n rfl rfl rfl (by first | assumption | rfl) ?_ | (refine w_guard rfl rfl rfl ?_ ?_ <;> (intro h; (try (have hp := of_decide_eq_true h)); (try (have hp := of_decide_eq_false h)); (try contradiction); (try (exfalso; omega)))) | (((first | apply w_q); (focus exact Q_len_kid rfl KSl.h); (focus exact rfl))))); (try all_goals (try show retA _ _ _ _ _ _ _))
            all_goals first
              | (exfalso; omega)
              | (refine ⟨[_], [], ⟨resV_tmp (by conv => lhs; whnf), trivial⟩, VwOs.mk (by decide) trivial, ?_, rfl⟩; (repeat' (first | exact vwR rfl)); done)
              | (refine ⟨[_], [], ⟨resV_tmp (by conv => lhs; whnf), trivial⟩, VwOs.mk (by decide) trivial, ?_, rfl⟩; exact Vw.bool' (by simp_all))
              | (all_goals trace_state); fail
/-- The order of a term. -/
noncomputable def tOf (t : Tr) : List Nat := ofn t.pts.length fun a b => tls t.dep t a b
set_option maxRecDepth 20000 in
set_option maxHeartbeats 4000000 in
theorem BuildTerm_ac (k p : Int) (l : List Tr) (hb : 1 + kcnt l ≤ 100000000) (hp : (Tr.mk k p l).pts.length ≤ 20) : AC Tryd.prog 26 [ta3 k p l] [] (ordv ((Tr.mk k p l).pts.length : Nat) (nl (tOf (.mk k p l)))) [] := by
  have ed : (Tr.mk k p l).dep = 1 + kdep l := by unfold Tr.dep; rfl
  have kL := fun a b => termLess_ac (1 + kdep l) k p l a b (Nat.le_refl _) hb
  have kP := AC.vw0 (TermPoints_ac (1 + kdep l) k p l (Nat.le_refl _) hb) (res2 := ints (Tr.mk k p l).pts) (by (repeat' (first | exact Vw.rowro _ _ _ _ rfl (by decide))))
  unfold tOf
  rw [ed]
  generalize hL : (Tr.mk k p l).pts = L at *
  have kF : ∀ a b : Nat, AC Tryd.prog 66 [.val (.int .i64 a), .val (.int .i64 b), .rpt [.val (.int .i64 k), .val (.int .i64 p), .sl 3 (kdc l)] 0] [] (.val (.bool (tls (1 + kdep l) (.mk k p l) a b))) [] := fun a b => by
    have kL := kL a b
    generalize tls (1 + kdep l) (.mk k p l) a b = V at *
    unfold ta3 tks at kL
    refine AC.mk (n := 10) (fn := Tryd.f66) Tryd.func66 (by kernel_rfl) rfl rfl rfl rfl (fun cx => ?_); dsimp only [argv, Nat.reduceAdd]
    (repeat' (first | refine a_seq ?_ | refine a_ret ?_ | refine a_region ?_ | refine l_nil ?_ | (apply w_q; (focus (first | exact Q_move (by conv => lhs; whnf) | exact Q_assign (by conv => lhs; whnf) | exact Q_ld_rpa rfl KAg.h rfl rfl (by first | (dsimp only [List.drop_zero, List.drop_succ_cons, List.take_succ_cons, List.take_zero, List.map, ofD]; done) | exact rfl))); (focus exact rfl)) | (((first | apply w_q); (focus (refine Q_call (.inl ⟨rfl, rfl⟩) (kL) ?_; ((repeat' (first | exact vwRL rfl | refine Vw.agg' ?_ | refine ⟨?_, ?_⟩ )); done))); (focus exact rfl))))); (try all_goals (try show retA _ _ _ _ _ _ _))
    all_goals first
      | (exfalso; omega)
      | (refine ⟨[_], [], ⟨resV_tmp (by conv => lhs; whnf), trivial⟩, VwOs.mk (by decide) trivial, ?_, rfl⟩; (repeat' (first | exact vwR rfl)); done)
      | (all_goals trace_state); fail
  have kO := OrderOf_ac L.length (fun a b => tls (1 + kdep l) (.mk k p l) a b) hp (cl := .clo 66 [.rpt [.val (.int .i64 k), .val (.int .i64 p), .sl 3 (kdc l)] 0]) (isFn_clo _ _) (fun a b _ _ => kF a b)
  generalize ofn L.length (fun a b => tls (1 + kdep l) (.mk k p l) a b) = O at *
  have kO := AC.vw0 kO (res2 := ordv (L.length : Nat) (nl O)) (by (repeat' (first | exact trivial | exact vwR rfl | exact Vw.rowro _ _ _ _ rfl (by decide) | refine Vw.agg' ?_ | refine ⟨?_, ?_⟩ )))
  clear kF kL
  unfold ta3 tks at *
  refine AC.mk (n := 8) (fn := Tryd.f26) Tryd.func26 (by kernel_rfl) rfl rfl rfl rfl (fun cx => ?_); dsimp only [argv, Nat.reduceAdd]
  (repeat' (first | refine a_seq ?_ | refine a_region ?_ | refine l_nil ?_ | refine w_box rfl rfl (by first|(dsimp only[obA,obB,obD,obE,obF,obG,obI,List.map,AO.sh,AV.sh,AV.shl,Nat.reduceAdd];done)|exact rfl) (by first|(dsimp only[obA,obB,obD,obE,obF,obG,obI,List.map,AO.sh,AV.sh,AV.shl,Nat.reduceAdd];done)|exact rfl) rfl ?_ | refine w_alloc KMk.h (by first|(dsimp only[obA,obB,obD,obE,obF,obG,obI,List.map,AO.sh,AV.sh,AV.shl,Nat.reduceAdd];done)|exact rfl) rfl (by first|(dsimp only[obA,obB,obD,obE,obF,obG,obI,List.map,AO.sh,AV.sh,AV.shl,Nat.reduceAdd];done)|exact rfl) (by first|(dsimp only[obA,obB,obD,obE,obF,obG,obI,List.map,AO.sh,AV.sh,AV.shl,Nat.reduceAdd];done)|exact rfl) rfl ?_)); (try all_goals (try show retA _ _ _ _ _ _ _))
  refine w_freezeB 0 [.val (.int .i64 k), .val (.int .i64 p), .sl 3 (kdc l)] rfl rfl (by simp only [fbv_nil, fbv_cons, fbl_nil, fbl_cons, fbo_nil, fbo_cons, fbo_box, fbo_row, fbo_gone, fb_own, fb_val, fb_ro, fb_rpt, fb_ptr, fb_ept, fb_agg, fb_tup, fb_clo, fb_ints, fb_rows, fb_pairs, fb_ords, Nat.reduceEqDiff, ↓reduceIte, List.set_cons_zero, List.set_cons_succ]; exact rfl) (by simp only [fbv_nil, fbv_cons, fbl_nil, fbl_cons, fbo_nil, fbo_cons, fbo_box, fbo_row, fbo_gone, fb_own, fb_val, fb_ro, fb_rpt, fb_ptr, fb_ept, fb_agg, fb_tup, fb_clo, fb_ints, fb_rows, fb_pairs, fb_ords, Nat.reduceEqDiff, ↓reduceIte, List.set_cons_zero, List.set_cons_succ]; exact rfl) ?_
  (repeat' (first | refine a_ret ?_ | refine l_nil ?_ | (apply w_q; (focus (first | exact Q_ld_rpa rfl KAg.h rfl rfl (by first | (dsimp only [List.drop_zero, List.drop_succ_cons, List.take_succ_cons, List.take_zero, List.map, ofD]; done) | exact rfl) | exact Q_len_ints rfl KSl.h | exact Q_clo1 (by conv => lhs; whnf))); (focus exact rfl)) | refine w_store_all rfl rfl rfl rfl rfl KSz.h (by first|(dsimp only[obA,obB,obD,obE,obF,obG,obI,List.map,AO.sh,AV.sh,AV.shl,Nat.reduceAdd];done)|exact rfl) ?_ | ((refine w_callV (.inl ⟨rfl, rfl⟩) (kP) ?_ (by first | (dsimp only [AV.sh, AV.shl, sh_ints, sh_rows, sh_pairs, sh_ords]; done) | exact rfl) rfl ?_; rotate_left 0; (focus ((repeat' (first | exact trivial | exact Vs.val _ | exact Vs.ro _ | refine Vs.agg' ?_ | refine ⟨?_, ?_⟩)); done)); rotate_left 1; all_goals (try (skip)))) | ((refine w_callV (.inl ⟨rfl, rfl⟩) (kO) ?_ (by first | (dsimp only [AV.sh, AV.shl, sh_ints, sh_rows, sh_pairs, sh_ords]; done) | exact rfl) rfl ?_; rotate_left 0; (focus ((repeat' (first | exact trivial | exact Vs.val _ | exact Vs.rpt _ _ | refine Vs.clo' ?_ | refine ⟨?_, ?_⟩)); done)); rotate_left 1; all_goals (try (skip)))))); (try all_goals (try show retA _ _ _ _ _ _ _))
  all_goals first
    | (exfalso; omega)
    | (refine ⟨[_], [], ⟨resV_cell rfl rfl KAg.h, trivial⟩, VwOs.mk (by decide) trivial, ?_, rfl⟩; (repeat' (first | exact trivial | exact vwR rfl | exact Vw.ro _ | refine Vw.agg' ?_ | refine ⟨?_, ?_⟩ )); done)
    | (all_goals trace_state); fail
end Go.Proofs.YtbgecpjlopdkfaaDoor
