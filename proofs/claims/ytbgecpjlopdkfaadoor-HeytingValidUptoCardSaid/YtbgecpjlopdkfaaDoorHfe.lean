import Derived.Test.YtbgecpjlopdkfaaDoorHfc
import Derived.Test.YtbgecpjlopdkfaaDoorHeh
import Derived.Test.YtbgecpjlopdkfaaDoorIv
set_option linter.unusedSimpArgs false
set_option linter.unusedVariables false
set_option linter.unusedSectionVars false
set_option maxRecDepth 20000
namespace Go.Proofs.YtbgecpjlopdkfaaDoor
attribute [local irreducible] QOp aL aC qL
theorem topR_end {n : Nat} {f g : Nat → Nat → Nat} (L : Lt n f g) (h0 : 0 < n) : topR f n = endE g n := by
  have hb := endE_lt L.gl n (Nat.le_refl _) h0
  have hl : ∀ x, x < n → f x (endE g n) = x := fun x hx => by
    have := endE_least L.dual h0 n (Nat.le_refl _) x hx
    rw [L.up hx hb, L.dual.comm hx hb]; exact this
  have key : ∀ k, k ≤ n → endE g n < k → topR f k = endE g n := by
    intro k
    induction k with
    | zero => intro _ h; omega
    | succ k ih =>
      intro hk h
      have hlk := topR_lt (f := f) k (by omega) h0
      unfold topR
      by_cases hkb : k = endE g n
      · rw [if_pos (by rw [hkb]; rw [← hkb]; rw [hkb]; exact hl _ (by rw [← hkb]; exact hlk))]
        exact hkb
      · have := ih (by omega) (by omega)
        rw [if_neg]
        · exact this
        · intro hc
          rw [this] at hc
          exact hkb (L.anti (by omega) hb (hl k (by omega)) hc)
  exact key n (Nat.le_refl _) hb
theorem low_end {n : Nat} {M J : List (List Nat)} (hL : La n M J) : lowR (ta M) n = endE (ta M) n ∧ topR (ta M) n = endE (ta J) n :=
  ⟨lowR_end hL.A hL.n1, topR_end hL.A hL.n1⟩
set_option maxRecDepth 20000 in
set_option maxHeartbeats 4000000 in
theorem ValueOf_ac {n : Nat} {M J : List (List Nat)} (hL : La n M J) (hD : DisP n (ta M) (ta J)) {vs : List Nat} (hvs : vs.length = 3 ∧ ∀ i, i < 3 → vs.getD i 0 < n) : ∀ (d : Nat) (k v : Int) (l : List Tr), 1 + kdep l ≤ d → (Tr.mk k v l).ffm = 0 →
    AC Tryd.prog 42 [latA n (tn M) (tn J), ta3 k v l, ints (nl vs)] [] (.val (.int .i64 (fvF n M J vs d (.mk k v l) : Nat))) []
  | 0, k, v, l, hd, _ => by omega
  | d + 1, k, v, l, hd, hf => by
    obtain ⟨⟨w, rfl, hw, hw0⟩, hc⟩ := ffm_zero hf
    have hvl : (nl vs).length = 3 := by rw [nl_len]; exact hvs.1
    rcases hc with ⟨hk, rfl⟩ | ⟨hk, k1, v1, l1, k2, v2, l2, rfl, f1, f2⟩
    · rcases hk with rfl | rfl
      · have hv : fvF n M J vs (d + 1) (.mk 1 (w : Int) []) = endE (ta M) n := by
          show (if (1 : Int) = 2 then _ else if (1 : Int) = 3 then _ else if (1 : Int) = 4 then _ else if (1 : Int) = 5 then _ else endE (ta M) n) = _
          rw [if_neg (by decide), if_neg (by decide), if_neg (by decide), if_neg (by decide)]
        have k1 := LatLeast_ac n M J hL.n1 hL.n2 hL.sM
        rw [(low_end hL).1] at k1
        rw [hv]
        clear hv
        generalize endE (ta M) n = lo at *
        generalize topR (ta M) n = hi at *
        generalize nl vs = VV at *
        unfold ta3 tks at *
        refine AC.mk (n := 68) (fn := Tryd.f42) Tryd.func42 (by kernel_rfl) rfl rfl rfl rfl (fun cx => ?_); dsimp only [argv, Nat.reduceAdd]
        (repeat' (first | refine a_seq ?_ | refine a_ret ?_ | refine a_region ?_ | refine l_nil ?_ | (apply w_q; (focus (first | exact Q_move (by conv => lhs; whnf) | exact Q_assign (by conv => lhs; whnf) | exact Q_fieldAddr_ptr rfl KFl.h | exact Q_load_ptr rfl rfl rfl KSc.h | exact Q_load_all rfl rfl KAg.h | exact Q_eql rfl rfl | exact Q_extract rfl (by conv => lhs; whnf))); (focus exact rfl)) | (refine a_cond rfl ?_ ?_ <;> (intro h; (try (have hp := of_decide_eq_true h)); (try (have hp := of_decide_eq_false h)); (try contradiction); (try (exfalso; omega)))) | refine w_box rfl rfl (by first|(dsimp only[obA,obB,obD,obE,obF,obG,obI,List.map,AO.sh,AV.sh,AV.shl,Nat.reduceAdd];done)|exact rfl) (by first|(dsimp only[obA,obB,obD,obE,obF,obG,obI,List.map,AO.sh,AV.sh,AV.shl,Nat.reduceAdd];done)|exact rfl) rfl ?_ | ((refine w_callV (.inl ⟨rfl, rfl⟩) (k1) ?_ (by first | (dsimp only [AV.sh, AV.shl, sh_ints, sh_rows, sh_pairs, sh_ords]; done) | exact rfl) rfl ?_; rotate_left 0; (focus ((repeat' (first | exact trivial | exact Vs.val _ | exact Vs.ro _ | refine Vs.agg' ?_ | refine ⟨?_, ?_⟩)); done)); rotate_left 1; all_goals (try (skip)))))); (try all_goals (try show retA _ _ _ _ _ _ _))
        all_goals first
          | (exfalso; omega)
          | (exfalso; simp_all; done)
          | (refine ⟨[_], [], ⟨resV_tmp (by conv => lhs; whnf), trivial⟩, VwOs.mk (by decide) trivial, ?_, rfl⟩; (repeat' (first | exact vwR rfl)); done)
          | (all_goals trace_state); fail
      · have hv : fvF n M J vs (d + 1) (.mk 2 (w : Int) []) = vs.getD w 0 := by
          show (if (2 : Int) = 2 then vs.getD (w : Int).toNat 0 else _) = _
          rw [if_pos rfl, Int.toNat_natCast]
        have hg := nl_get vs w
        rw [hv]
        clear hv
        generalize nl vs = VV at *
        generalize vs.getD w 0 = r at *
        unfold ta3 tks at *
        refine AC.mk (n := 68) (fn := Tryd.f42) Tryd.func42 (by kernel_rfl) rfl rfl rfl rfl (fun cx => ?_); dsimp only [argv, Nat.reduceAdd]
        (repeat' (first | refine a_seq ?_ | refine a_skip ?_ | refine a_ret ?_ | refine a_region ?_ | refine l_nil ?_ | (apply w_q; (focus (first | exact Q_move (by conv => lhs; whnf) | exact Q_assign (by conv => lhs; whnf) | exact Q_fieldAddr_ptr rfl KFl.h | exact Q_load_ptr rfl rfl rfl KSc.h | exact Q_eql rfl rfl | exact Q_ix_ints rfl rfl rfl KSl.h (by omega) | exact Q_ld_ints rfl (by omega) KSc.h)); (focus exact rfl)) | (refine a_cond rfl ?_ ?_ <;> (intro h; (try (have hp := of_decide_eq_true h)); (try (have hp := of_decide_eq_false h)); (try contradiction); (try (exfalso; omega)))) | refine w_box rfl rfl (by first|(dsimp only[obA,obB,obD,obE,obF,obG,obI,List.map,AO.sh,AV.sh,AV.shl,Nat.reduceAdd];done)|exact rfl) (by first|(dsimp only[obA,obB,obD,obE,obF,obG,obI,List.map,AO.sh,AV.sh,AV.shl,Nat.reduceAdd];done)|exact rfl) rfl ?_)); (try all_goals (try show retA _ _ _ _ _ _ _))
        all_goals first
          | (exfalso; omega)
          | (exfalso; simp_all; done)
          | (rw [hg]; refine ⟨[_], [], ⟨resV_tmp (by conv => lhs; whnf), trivial⟩, VwOs.mk (by decide) trivial, ?_, rfl⟩; (repeat' (first | exact vwR rfl)); done)
          | (all_goals trace_state); fail
    · obtain rfl := hw0 (by omega)
      rw [kdep_two] at hd
      have d1 : (Tr.mk k1 v1 l1).dep = 1 + kdep l1 := by unfold Tr.dep; rfl
      have d2 : (Tr.mk k2 v2 l2).dep = 1 + kdep l2 := by unfold Tr.dep; rfl
      have p1 := ValueOf_ac hL hD hvs d k1 v1 l1 (by omega) f1
      have p2 := ValueOf_ac hL hD hvs d k2 v2 l2 (by omega) f2
      have g1 := fv_lt hL hvs d (.mk k1 v1 l1) (by omega) f1
      have g2 := fv_lt hL hvs d (.mk k2 v2 l2) (by omega) f2
      have kI := RImp_ac n M J hL hD _ _ g1 g2
      have hM := hL.sM
      have hJ := hL.sJ
      rcases hk with rfl | rfl | rfl
      · have hv : fvF n M J vs (d + 1) (.mk 3 ((0 : Nat) : Int) [.mk k1 v1 l1, .mk k2 v2 l2]) = ta M (fvF n M J vs d (.mk k1 v1 l1)) (fvF n M J vs d (.mk k2 v2 l2)) := rfl
        rw [hv]
        clear hv kI d1 d2 hd hf hvs hvl
        generalize fvF n M J vs d (.mk k1 v1 l1) = x at *
        generalize fvF n M J vs d (.mk k2 v2 l2) = y at *
        generalize nl vs = VV at *
        have e1 : (tn M).length = n := by rw [tn_len]; exact hM.len
        have e2 : ((tn M).getD x []).length = n := by rw [tn_get, nl_len]; exact hM.row x g1
        have e3 : ((tn M).getD x []).getD y 0 = ((ta M x y : Nat) : Int) := by rw [tn_get, nl_get]; rfl
        generalize ta M x y = r at *
        generalize tn M = MM at *
        generalize tn J = JJ at *
        unfold ta3 tks at *
        refine AC.mk (n := 68) (fn := Tryd.f42) Tryd.func42 (by kernel_rfl) rfl rfl rfl rfl (fun cx => ?_); dsimp only [argv, Nat.reduceAdd]
        (repeat' (first | refine a_seq ?_ | refine a_region ?_ | refine l_nil ?_ | (apply w_q; (focus (first | exact Q_assign (by conv => lhs; whnf))); (focus exact rfl)) | refine w_box rfl rfl (by first|(dsimp only[obA,obB,obD,obE,obF,obG,obI,List.map,AO.sh,AV.sh,AV.shl,Nat.reduceAdd];done)|exact rfl) (by first|(dsimp only[obA,obB,obD,obE,obF,obG,obI,List.map,AO.sh,AV.sh,AV.shl,Nat.reduceAdd];done)|exact rfl) rfl ?_)); (try all_goals (try show retA _ _ _ _ _ _ _))
        refine w_freezeB 0 [.val (.int .i64 n), .sl 1 (rowc MM), .sl 1 (rowc JJ)] rfl rfl (by simp only [fbv_nil, fbv_cons, fbl_nil, fbl_cons, fbo_nil, fbo_cons, fbo_box, fbo_row, fbo_gone, fb_own, fb_val, fb_ro, fb_rpt, fb_ptr, fb_ept, fb_agg, fb_tup, fb_clo, fb_ints, fb_rows, fb_pairs, fb_ords, Nat.reduceEqDiff, ↓reduceIte, List.set_cons_zero, List.set_cons_succ]; exact rfl) (by simp only [fbv_nil, fbv_cons, fbl_nil, fbl_cons, fbo_nil, fbo_cons, fbo_box, fbo_row, fbo_gone, fb_own, fb_val, fb_ro, fb_rpt, fb_ptr, fb_ept, fb_agg, fb_tup, fb_clo, fb_ints, fb_rows, fb_pairs, fb_ords, Nat.reduceEqDiff, ↓reduceIte, List.set_cons_zero, List.set_cons_succ]; exact rfl) ?_
        refine w_freezeB 1 [.val (.int .i64 3), .val (.int .i64 ((0 : Nat) : Int)), .sl 3 (kdc [.mk k1 v1 l1, .mk k2 v2 l2])] rfl rfl (by simp only [fbv_nil, fbv_cons, fbl_nil, fbl_cons, fbo_nil, fbo_cons, fbo_box, fbo_row, fbo_gone, fb_own, fb_val, fb_ro, fb_rpt, fb_ptr, fb_ept, fb_agg, fb_tup, fb_clo, fb_ints, fb_rows, fb_pairs, fb_ords, Nat.reduceEqDiff, ↓reduceIte, List.set_cons_zero, List.set_cons_succ]; exact rfl) (by simp only [fbv_nil, fbv_cons, fbl_nil, fbl_cons, fbo_nil, fbo_cons, fbo_box, fbo_row, fbo_gone, fb_own, fb_val, fb_ro, fb_rpt, fb_ptr, fb_ept, fb_agg, fb_tup, fb_clo, fb_ints, fb_rows, fb_pairs, fb_ords, Nat.reduceEqDiff, ↓reduceIte, List.set_cons_zero, List.set_cons_succ]; exact rfl) ?_
        (repeat' (first | refine a_seq ?_ | refine a_block ?_ | refine a_skip ?_ | refine a_ret ?_ | refine a_region ?_ | refine l_nil ?_ | refine q_nil ?_ | ((first | apply w_q | apply w_qq); (focus (first | exact Q_move (by conv => lhs; whnf) | exact Q_assign (by conv => lhs; whnf) | exact Q_fieldAddr_rpt rfl KFl.h | exact Q_eql rfl rfl | exact Q_ix_ints rfl rfl rfl KSl.h (by omega) | exact Q_ix_rows rfl rfl rfl KSl.h (by omega) | exact Q_ld_rpa rfl KAg.h rfl rfl (by first | (dsimp only [List.drop_zero, List.drop_succ_cons, List.take_succ_cons, List.take_zero, List.map, ofD]; done) | exact rfl) | exact Q_ld_rv rfl rfl KSc.h | exact Q_ld_rs rfl rfl KSc.h | exact Q_ld_ints rfl (by omega) KSc.h | exact Q_ld_rows rfl (by omega) KSc.h)); (focus exact rfl)) | (refine a_cond rfl ?_ ?_ <;> (intro h; (try (have hp := of_decide_eq_true h)); (try (have hp := of_decide_eq_false h)); (try contradiction); (try (exfalso; omega)))) | refine a_draw (by kernel_rfl) (by kernel_rfl) ?_ | (((first | apply w_qq); (focus exact Q_ix_kid (o := 0) rfl rfl rfl KSl.h (Nat.succ_pos 1)); (focus exact rfl))) | (((first | apply w_qq); (focus exact Q_ix_kid (o := 1) rfl rfl rfl KSl.h (Nat.lt_succ_self 1)); (focus exact rfl))) | (((first | apply w_qq); (focus (refine Q_call (.inl ⟨rfl, rfl⟩) (p1) ?_; ((repeat' (first | exact trivial | exact vwR rfl | exact vwRL rfl | exact Vw.ro _ | refine Vw.agg' ?_ | refine ⟨?_, ?_⟩ )); done))); (focus exact rfl))) | (((first | apply w_qq); (focus (refine Q_call (.inl ⟨rfl, rfl⟩) (p2) ?_; ((repeat' (first | exact trivial | exact vwR rfl | exact vwRL rfl | exact Vw.ro _ | refine Vw.agg' ?_ | refine ⟨?_, ?_⟩ )); done))); (focus exact rfl))))); (try all_goals (try show retA _ _ _ _ _ _ _))
        all_goals first
          | (exfalso; omega)
          | (exfalso; simp_all; done)
          | (rw [e3]; refine ⟨[_], [], ⟨resV_tmp (by conv => lhs; whnf), trivial⟩, VwOs.mk (by decide) trivial, ?_, rfl⟩; (repeat' (first | exact vwR rfl)); done)
          | (all_goals trace_state); fail
      · have hv : fvF n M J vs (d + 1) (.mk 4 ((0 : Nat) : Int) [.mk k1 v1 l1, .mk k2 v2 l2]) = ta J (fvF n M J vs d (.mk k1 v1 l1)) (fvF n M J vs d (.mk k2 v2 l2)) := rfl
        rw [hv]
        clear hv kI d1 d2 hd hf hvs hvl
        generalize fvF n M J vs d (.mk k1 v1 l1) = x at *
        generalize fvF n M J vs d (.mk k2 v2 l2) = y at *
        generalize nl vs = VV at *
        have e1 : (tn J).length = n := by rw [tn_len]; exact hJ.len
        have e2 : ((tn J).getD x []).length = n := by rw [tn_get, nl_len]; exact hJ.row x g1
        have e3 : ((tn J).getD x []).getD y 0 = ((ta J x y : Nat) : Int) := by rw [tn_get, nl_get]; rfl
        generalize ta J x y = r at *
        generalize tn M = MM at *
        generalize tn J = JJ at *
        unfold ta3 tks at *
        refine AC.mk (n := 68) (fn := Tryd.f42) Tryd.func42 (by kernel_rfl) rfl rfl rfl rfl (fun cx => ?_); dsimp only [argv, Nat.reduceAdd]
        (repeat' (first | refine a_seq ?_ | refine a_region ?_ | refine l_nil ?_ | (apply w_q; (focus (first | exact Q_assign (by conv => lhs; whnf))); (focus exact rfl)) | refine w_box rfl rfl (by first|(dsimp only[obA,obB,obD,obE,obF,obG,obI,List.map,AO.sh,AV.sh,AV.shl,Nat.reduceAdd];done)|exact rfl) (by first|(dsimp only[obA,obB,obD,obE,obF,obG,obI,List.map,AO.sh,AV.sh,AV.shl,Nat.reduceAdd];done)|exact rfl) rfl ?_)); (try all_goals (try show retA _ _ _ _ _ _ _))
        refine w_freezeB 0 [.val (.int .i64 n), .sl 1 (rowc MM), .sl 1 (rowc JJ)] rfl rfl (by simp only [fbv_nil, fbv_cons, fbl_nil, fbl_cons, fbo_nil, fbo_cons, fbo_box, fbo_row, fbo_gone, fb_own, fb_val, fb_ro, fb_rpt, fb_ptr, fb_ept, fb_agg, fb_tup, fb_clo, fb_ints, fb_rows, fb_pairs, fb_ords, Nat.reduceEqDiff, ↓reduceIte, List.set_cons_zero, List.set_cons_succ]; exact rfl) (by simp only [fbv_nil, fbv_cons, fbl_nil, fbl_cons, fbo_nil, fbo_cons, fbo_box, fbo_row, fbo_gone, fb_own, fb_val, fb_ro, fb_rpt, fb_ptr, fb_ept, fb_agg, fb_tup, fb_clo, fb_ints, fb_rows, fb_pairs, fb_ords, Nat.reduceEqDiff, ↓reduceIte, List.set_cons_zero, List.set_cons_succ]; exact rfl) ?_
        refine w_freezeB 1 [.val (.int .i64 4), .val (.int .i64 ((0 : Nat) : Int)), .sl 3 (kdc [.mk k1 v1 l1, .mk k2 v2 l2])] rfl rfl (by simp only [fbv_nil, fbv_cons, fbl_nil, fbl_cons, fbo_nil, fbo_cons, fbo_box, fbo_row, fbo_gone, fb_own, fb_val, fb_ro, fb_rpt, fb_ptr, fb_ept, fb_agg, fb_tup, fb_clo, fb_ints, fb_rows, fb_pairs, fb_ords, Nat.reduceEqDiff, ↓reduceIte, List.set_cons_zero, List.set_cons_succ]; exact rfl) (by simp only [fbv_nil, fbv_cons, fbl_nil, fbl_cons, fbo_nil, fbo_cons, fbo_box, fbo_row, fbo_gone, fb_own, fb_val, fb_ro, fb_rpt, fb_ptr, fb_ept, fb_agg, fb_tup, fb_clo, fb_ints, fb_rows, fb_pairs, fb_ords, Nat.reduceEqDiff, ↓reduceIte, List.set_cons_zero, List.set_cons_succ]; exact rfl) ?_
        (repeat' (first | refine a_seq ?_ | refine a_block ?_ | refine a_skip ?_ | refine a_ret ?_ | refine a_region ?_ | refine l_nil ?_ | refine q_nil ?_ | ((first | apply w_q | apply w_qq); (focus (first | exact Q_move (by conv => lhs; whnf) | exact Q_assign (by conv => lhs; whnf) | exact Q_fieldAddr_rpt rfl KFl.h | exact Q_eql rfl rfl | exact Q_ix_ints rfl rfl rfl KSl.h (by omega) | exact Q_ix_rows rfl rfl rfl KSl.h (by omega) | exact Q_ld_rpa rfl KAg.h rfl rfl (by first | (dsimp only [List.drop_zero, List.drop_succ_cons, List.take_succ_cons, List.take_zero, List.map, ofD]; done) | exact rfl) | exact Q_ld_rv rfl rfl KSc.h | exact Q_ld_rs rfl rfl KSc.h | exact Q_ld_ints rfl (by omega) KSc.h | exact Q_ld_rows rfl (by omega) KSc.h)); (focus exact rfl)) | (refine a_cond rfl ?_ ?_ <;> (intro h; (try (have hp := of_decide_eq_true h)); (try (have hp := of_decide_eq_false h)); (try contradiction); (try (exfalso; omega)))) | refine a_draw (by kernel_rfl) (by kernel_rfl) ?_ | (((first | apply w_qq); (focus exact Q_ix_kid (o := 0) rfl rfl rfl KSl.h (Nat.succ_pos 1)); (focus exact rfl))) | (((first | apply w_qq); (focus exact Q_ix_kid (o := 1) rfl rfl rfl KSl.h (Nat.lt_succ_self 1)); (focus exact rfl))) | (((first | apply w_qq); (focus (refine Q_call (.inl ⟨rfl, rfl⟩) (p1) ?_; ((repeat' (first | exact trivial | exact vwR rfl | exact vwRL rfl | exact Vw.ro _ | refine Vw.agg' ?_ | refine ⟨?_, ?_⟩ )); done))); (focus exact rfl))) | (((first | apply w_qq); (focus (refine Q_call (.inl ⟨rfl, rfl⟩) (p2) ?_; ((repeat' (first | exact trivial | exact vwR rfl | exact vwRL rfl | exact Vw.ro _ | refine Vw.agg' ?_ | refine ⟨?_, ?_⟩ )); done))); (focus exact rfl))))); (try all_goals (try show retA _ _ _ _ _ _ _))
        all_goals first
          | (exfalso; omega)
          | (exfalso; simp_all; done)
          | (rw [e3]; refine ⟨[_], [], ⟨resV_tmp (by conv => lhs; whnf), trivial⟩, VwOs.mk (by decide) trivial, ?_, rfl⟩; (repeat' (first | exact vwR rfl)); done)
          | (all_goals trace_state); fail
      · have hv : fvF n M J vs (d + 1) (.mk 5 ((0 : Nat) : Int) [.mk k1 v1 l1, .mk k2 v2 l2]) = impV n M J (fvF n M J vs d (.mk k1 v1 l1)) (fvF n M J vs d (.mk k2 v2 l2)) := rfl
        rw [hv]
        clear hv d1 d2 hd hf hvs hvl
        generalize fvF n M J vs d (.mk k1 v1 l1) = x at *
        generalize fvF n M J vs d (.mk k2 v2 l2) = y at *
        generalize nl vs = VV at *
        generalize impV n M J x y = r at *
        clear hM hJ hL hD
        generalize tn M = MM at *
        generalize tn J = JJ at *
        unfold ta3 tks at *
        refine AC.mk (n := 68) (fn := Tryd.f42) Tryd.func42 (by kernel_rfl) rfl rfl rfl rfl (fun cx => ?_); dsimp only [argv, Nat.reduceAdd]
        (repeat' (first | refine a_seq ?_ | refine a_region ?_ | refine l_nil ?_ | (apply w_q; (focus (first | exact Q_assign (by conv => lhs; whnf))); (focus exact rfl)) | refine w_box rfl rfl (by first|(dsimp only[obA,obB,obD,obE,obF,obG,obI,List.map,AO.sh,AV.sh,AV.shl,Nat.reduceAdd];done)|exact rfl) (by first|(dsimp only[obA,obB,obD,obE,obF,obG,obI,List.map,AO.sh,AV.sh,AV.shl,Nat.reduceAdd];done)|exact rfl) rfl ?_)); (try all_goals (try show retA _ _ _ _ _ _ _))
        refine w_freezeB 0 [.val (.int .i64 n), .sl 1 (rowc MM), .sl 1 (rowc JJ)] rfl rfl (by simp only [fbv_nil, fbv_cons, fbl_nil, fbl_cons, fbo_nil, fbo_cons, fbo_box, fbo_row, fbo_gone, fb_own, fb_val, fb_ro, fb_rpt, fb_ptr, fb_ept, fb_agg, fb_tup, fb_clo, fb_ints, fb_rows, fb_pairs, fb_ords, Nat.reduceEqDiff, ↓reduceIte, List.set_cons_zero, List.set_cons_succ]; exact rfl) (by simp only [fbv_nil, fbv_cons, fbl_nil, fbl_cons, fbo_nil, fbo_cons, fbo_box, fbo_row, fbo_gone, fb_own, fb_val, fb_ro, fb_rpt, fb_ptr, fb_ept, fb_agg, fb_tup, fb_clo, fb_ints, fb_rows, fb_pairs, fb_ords, Nat.reduceEqDiff, ↓reduceIte, List.set_cons_zero, List.set_cons_succ]; exact rfl) ?_
        refine w_freezeB 1 [.val (.int .i64 5), .val (.int .i64 ((0 : Nat) : Int)), .sl 3 (kdc [.mk k1 v1 l1, .mk k2 v2 l2])] rfl rfl (by simp only [fbv_nil, fbv_cons, fbl_nil, fbl_cons, fbo_nil, fbo_cons, fbo_box, fbo_row, fbo_gone, fb_own, fb_val, fb_ro, fb_rpt, fb_ptr, fb_ept, fb_agg, fb_tup, fb_clo, fb_ints, fb_rows, fb_pairs, fb_ords, Nat.reduceEqDiff, ↓reduceIte, List.set_cons_zero, List.set_cons_succ]; exact rfl) (by simp only [fbv_nil, fbv_cons, fbl_nil, fbl_cons, fbo_nil, fbo_cons, fbo_box, fbo_row, fbo_gone, fb_own, fb_val, fb_ro, fb_rpt, fb_ptr, fb_ept, fb_agg, fb_tup, fb_clo, fb_ints, fb_rows, fb_pairs, fb_ords, Nat.reduceEqDiff, ↓reduceIte, List.set_cons_zero, List.set_cons_succ]; exact rfl) ?_
        (repeat' (first | refine a_seq ?_ | refine a_block ?_ | refine a_skip ?_ | refine a_ret ?_ | refine a_region ?_ | refine l_nil ?_ | refine q_nil ?_ | ((first | apply w_q | apply w_qq); (focus (first | exact Q_move (by conv => lhs; whnf) | exact Q_assign (by conv => lhs; whnf) | exact Q_fieldAddr_rpt rfl KFl.h | exact Q_eql rfl rfl | exact Q_ld_rpa rfl KAg.h rfl rfl (by first | (dsimp only [List.drop_zero, List.drop_succ_cons, List.take_succ_cons, List.take_zero, List.map, ofD]; done) | exact rfl) | exact Q_ld_rv rfl rfl KSc.h | exact Q_ld_rs rfl rfl KSc.h)); (focus exact rfl)) | (refine a_cond rfl ?_ ?_ <;> (intro h; (try (have hp := of_decide_eq_true h)); (try (have hp := of_decide_eq_false h)); (try contradiction); (try (exfalso; omega)))) | refine a_draw (by kernel_rfl) (by kernel_rfl) ?_ | (((first | apply w_q | apply w_qq); (focus exact Q_ix_kid (o := 0) rfl rfl rfl KSl.h (Nat.succ_pos 1)); (focus exact rfl))) | (((first | apply w_q | apply w_qq); (focus exact Q_ix_kid (o := 1) rfl rfl rfl KSl.h (Nat.lt_succ_self 1)); (focus exact rfl))) | (((first | apply w_q | apply w_qq); (focus (refine Q_call (.inl ⟨rfl, rfl⟩) (p1) ?_; ((repeat' (first | exact trivial | exact vwR rfl | exact vwRL rfl | exact Vw.ro _ | refine Vw.agg' ?_ | refine ⟨?_, ?_⟩ )); done))); (focus exact rfl))) | (((first | apply w_q | apply w_qq); (focus (refine Q_call (.inl ⟨rfl, rfl⟩) (p2) ?_; ((repeat' (first | exact trivial | exact vwR rfl | exact vwRL rfl | exact Vw.ro _ | refine Vw.agg' ?_ | refine ⟨?_, ?_⟩ )); done))); (focus exact rfl))) | (((first | apply w_q); (focus (refine Q_call (.inl ⟨rfl, rfl⟩) (kI) ?_; ((repeat' (first | exact trivial | exact vwR rfl | exact vwRL rfl | exact Vw.ro _ | refine Vw.agg' ?_ | refine ⟨?_, ?_⟩ )); done))); (focus exact rfl))))); (try all_goals (try show retA _ _ _ _ _ _ _))
        all_goals first
          | (exfalso; omega)
          | (exfalso; simp_all; done)
          | (refine ⟨[_], [], ⟨resV_tmp (by conv => lhs; whnf), trivial⟩, VwOs.mk (by decide) trivial, ?_, rfl⟩; (repeat' (first | exact vwR rfl)); done)
          | (all_goals trace_state); fail
end Go.Proofs.YtbgecpjlopdkfaaDoor
