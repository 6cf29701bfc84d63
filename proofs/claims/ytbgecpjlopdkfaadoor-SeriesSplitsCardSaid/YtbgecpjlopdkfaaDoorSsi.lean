import Derived.Test.YtbgecpjlopdkfaaDoorSsg
set_option linter.unusedSimpArgs false
set_option linter.unusedVariables false
set_option linter.unusedSectionVars false
set_option maxRecDepth 20000
namespace Go.Proofs.YtbgecpjlopdkfaaDoor
attribute [local irreducible] QOp aL aC qL
theorem kfrm_get : ∀ {l : List Tr}, kfrm l = 0 → ∀ {i : Nat} (h : i < l.length), (l[i]).frm = 0
  | t :: r, hf, i, h => by
    unfold kfrm at hf
    by_cases ht : t.frm = 0
    · rw [if_neg (by omega)] at hf
      cases i with
      | zero => exact ht
      | succ i => exact kfrm_get hf (by simpa using h)
    · rw [if_pos ht] at hf; exact absurd hf ht
theorem frm_kids {k p : Int} {l : List Tr} (h : (Tr.mk k p l).frm = 0) : ¬ (k < 1 ∨ 3 < k) ∧ ¬ ((k = 1 ∧ 0 < l.length) ∨ (k ≠ 1 ∧ (l.length < 2 ∨ p ≠ 0))) ∧ kfrm l = 0 := by
  unfold Tr.frm at h
  by_cases h1 : k < 1 ∨ 3 < k
  · rw [if_pos h1] at h; omega
  · rw [if_neg h1] at h
    by_cases h2 : (k = 1 ∧ 0 < l.length) ∨ (k ≠ 1 ∧ (l.length < 2 ∨ p ≠ 0))
    · rw [if_pos h2] at h; omega
    · rw [if_neg h2] at h; exact ⟨h1, h2, h⟩
theorem frm_pts : ∀ (d : Nat) (t : Tr), t.dep ≤ d → t.frm = 0 → 0 < t.pts.length
  | 0, .mk k p l, hd, _ => by unfold Tr.dep at hd; omega
  | d + 1, .mk k p l, hd, hf => by
    obtain ⟨h1, h2, h3⟩ := frm_kids hf
    unfold Tr.pts
    by_cases hk : k = 1
    · rw [if_pos hk]; exact Nat.one_pos
    · rw [if_neg hk]
      unfold Tr.dep at hd
      match l, h2, h3, hd with
      | [], h2, _, _ => exact absurd (.inr ⟨hk, .inl (by decide)⟩) h2
      | t :: r, _, h3, hd =>
        have ht : t.frm = 0 := kfrm_get (l := t :: r) h3 (i := 0) (by simp)
        have := frm_pts d t (by unfold kdep at hd; omega) ht
        unfold kpts
        rw [List.length_append]; omega
theorem Q_ld_kd {P : Program} {st : St} {d : Option Tmp} {ty : TypeId} {pos : String} {af : Array Edge} {g : Option (Nat × Bool)} {x : Operand} {T : TypeId} {l : List Tr} {o : Nat} {k p : Int} {r : List Tr}
    (hx : st.ev x = .rpt (kdc l) (o * 3)) (h : o < l.length) (he : l[o] = .mk k p r) (ht : ScT P T) : QOp P ⟨d, .load T x, ty, pos, af, g⟩ st (.val (.int .i64 k)) := by
  have e := kdc_get h 0 (by decide)
  rw [he, show (Tr.mk k p r).dc[0]? = some (.val (.int .i64 k)) by unfold Tr.dc; rfl] at e
  exact Q_load_rpt (dt := .val (.int .i64 k)) hx e ht
theorem kcan_drop {k last : Int} {l : List Tr} {i : Nat} (h : i < l.length) : kcan k last (l.drop i) = (decide ((l[i]).kd ≠ k) && (l[i]).can && !(decide (k = 2) && decide (lsN (l[i]).pts (l[i]).pts.length ≤ last)) && kcan k (lsN (l[i]).pts (l[i]).pts.length) (l.drop (i + 1))) := by
  rw [List.drop_eq_getElem_cons h]
  conv => lhs; unfold kcan
set_option maxRecDepth 20000 in
set_option maxHeartbeats 4000000 in
theorem Canonical_ac : ∀ (d : Nat) (k p : Int) (l : List Tr), 1 + kdep l ≤ d → 1 + kcnt l ≤ 100000000 → (Tr.mk k p l).frm = 0 → (Tr.mk k p l).can = true → AC Tryd.prog 24 [ta3 k p l] [] (.val (.bool true)) []
  | 0, k, p, l, hd, _, _, _ => by omega
  | d + 1, k, p, l, hd, hb, hf, hc => by
    have ih := Canonical_ac d
    have hll := kcnt_len l
    obtain ⟨_, _, hkf⟩ := frm_kids hf
    unfold Tr.can at hc
    unfold ta3 tks at ih ⊢
    clear hf
    refine AC.mk (n := 67) (fn := Tryd.f24) Tryd.func24 (by kernel_rfl) rfl rfl rfl rfl (fun cx => ?_); dsimp only [argv, Nat.reduceAdd]
    (repeat' (first | refine a_seq ?_ | refine a_block ?_ | refine a_region ?_ | refine l_nil ?_ | (apply w_q; (focus (first | exact Q_assign (by conv => lhs; whnf))); (focus exact rfl)) | refine w_box rfl rfl (by first|(dsimp only[obA,obB,obD,obE,obF,obG,obI,List.map,AO.sh,AV.sh,AV.shl,Nat.reduceAdd];done)|exact rfl) (by first|(dsimp only[obA,obB,obD,obE,obF,obG,obI,List.map,AO.sh,AV.sh,AV.shl,Nat.reduceAdd];done)|exact rfl) rfl ?_)); (try all_goals (try show retA _ _ _ _ _ _ _))
    refine w_freezeBC 0 [.val (.int .i64 k), .val (.int .i64 p), .sl 3 (kdc l)] rfl rfl (by simp only [fbv_nil, fbv_cons, fbl_nil, fbl_cons, fbo_nil, fbo_cons, fbo_box, fbo_row, fbo_gone, fb_own, fb_val, fb_ro, fb_rpt, fb_ptr, fb_ept, fb_agg, fb_tup, fb_clo, fb_ints, fb_rows, fb_pairs, fb_ords, Nat.reduceEqDiff, ↓reduceIte, List.set_cons_zero, List.set_cons_succ]; exact rfl) (by simp only [fbv_nil, fbv_cons, fbl_nil, fbl_cons, fbo_nil, fbo_cons, fbo_box, fbo_row, fbo_gone, fb_own, fb_val, fb_ro, fb_rpt, fb_ptr, fb_ept, fb_agg, fb_tup, fb_clo, fb_ints, fb_rows, fb_pairs, fb_ords, Nat.reduceEqDiff, ↓reduceIte, List.set_cons_zero, List.set_cons_succ]; exact rfl) ?_
    refine w_loop (X := Nat × Int) [1] (by simp only [keepv, getv_cons, Nat.reduceEqDiff, ↓reduceIte]; exact rfl) (fun x => [(3, .val (.int .i64 x.2)), (4, .val (.int .i64 (x.1 : Nat)))]) (fun _ => [.gone]) (fun x => x.1 ≤ l.length ∧ kcan k x.2 (l.drop x.1) = true) (fun x => l.length - x.1) ((0, -1)) ([0]) ?_ ?_ rfl ?_ <;> (try dsimp only [List.cons_append, List.nil_append])
    · exact ⟨Nat.zero_le _, hc⟩
    · (refine St.le_mk rfl (VwOs.mk (by decide) ?_) ?_ <;> (repeat' (first | exact trivial | exact vwR rfl | exact VwO.gone _ | refine ⟨⟨_, rfl, ?_⟩, ?_⟩ | refine ⟨?_, ?_⟩ )))
    rintro ⟨i, last⟩ ⟨hi, hcn⟩
    dsimp only at hi hcn ⊢
    by_cases hil : i < l.length
    · have hmo := kcnt_mono l (i + 1)
      have htc := kcnt_take hil
      have hdp := dep_kid hil
      have hfk := kfrm_get hkf hil
      have hpp := frm_pts _ (l[i]) (Nat.le_refl _) hfk
      have hpc := pts_cnt (l[i])
      rw [kcan_drop hil] at hcn
      rcases hk : l[i] with ⟨k1, p1, r⟩
      rw [hk] at hdp htc hfk hpp hcn hpc
      have c1 : (Tr.mk k1 p1 r).cnt = 1 + kcnt r := by unfold Tr.cnt; rfl
      have c2 : (Tr.mk k1 p1 r).dep = 1 + kdep r := by unfold Tr.dep; rfl
      simp only [Bool.and_eq_true, Bool.not_eq_true', decide_eq_true_eq, Bool.and_eq_false_iff, decide_eq_false_iff_not] at hcn
      obtain ⟨⟨⟨n1, n2⟩, n3⟩, n4⟩ := hcn
      have n1 : ¬ k1 = k := n1
      have call := ih k1 p1 r (by omega) (by omega) hfk n2
      have k2 := AC.vw0 (TermPoints_ac (1 + kdep r) k1 p1 r (Nat.le_refl _) (by omega)) (res2 := ints (Tr.mk k1 p1 r).pts) (by (repeat' (first | exact Vw.rowro _ _ _ _ rfl (by decide))))
      have b3 : l.length ≤ 100000000 := by omega
      have b4 : (Tr.mk k1 p1 r).pts.length ≤ 100000000 := by omega
      generalize (Tr.mk k1 p1 r).pts = L at *
      unfold ta3 tks at k2
      clear ih hdp htc c1 c2 hfk n2 hmo
      (repeat' (first | refine a_seq ?_ | refine a_block ?_ | refine a_skip ?_ | refine a_region ?_ | refine l_nil ?_ | refine q_nil ?_ | ((first | apply w_q | apply w_qq); (focus (first | exact Q_move (by conv => lhs; whnf) | exact Q_assign (by conv => lhs; whnf) | exact Q_fieldAddr_rpt rfl KFl.h | exact Q_lss rfl rfl | exact Q_eql rfl rfl | exact Q_ix_ints rfl rfl rfl KSl.h (by omega) | exact Q_ld_rv rfl rfl KSc.h | exact Q_ld_rs rfl rfl KSc.h | exact Q_ld_ints rfl (by omega) KSc.h | exact Q_not rfl | exact Q_pick_f rfl (by assumption) (by conv => lhs; whnf))); (focus exact rfl)) | (refine a_cond rfl ?_ ?_ <;> (intro h; (try (have hp := of_decide_eq_true h)); (try (have hp := of_decide_eq_false h)); (try contradiction); (try (exfalso; omega)))) | refine w_qguard_y rfl rfl rfl (by first | assumption | rfl) ?_ | ((first | refine w_qguard rfl rfl rfl ?_ ?_) <;> (intro h; (try (have hp := of_decide_eq_true h)); (try (have hp := of_decide_eq_false h)); (try contradiction); (try (exfalso; omega)))) | refine a_draw (by kernel_rfl) (by kernel_rfl) ?_ | (((first | apply w_q | apply w_qq); (focus exact Q_len_kid rfl KSl.h); (focus exact rfl))) | (((first | apply w_q | apply w_qq); (focus exact Q_ix_kid rfl rfl rfl KSl.h hil); (focus exact rfl))) | (((first | apply w_q | apply w_qq); (focus exact Q_ld_kd rfl hil hk KSc.h); (focus exact rfl))) | (((first | apply w_q | apply w_qq); (focus exact Q_ld_kid rfl hil hk KAg.h); (focus exact rfl))) | (((first | apply w_q | apply w_qq); (focus (refine Q_call (.inl ⟨rfl, rfl⟩) (call) ?_; ((repeat' (first | exact trivial | exact vwRL rfl | refine Vw.agg' ?_ | refine ⟨?_, ?_⟩ )); done))); (focus exact rfl))) | ((refine w_callV (.inl ⟨rfl, rfl⟩) (k2) ?_ (by first | (dsimp only [AV.sh, AV.shl, sh_ints, sh_rows, sh_pairs, sh_ords]; done) | exact rfl) rfl ?_; rotate_left 0; (focus ((repeat' (first | exact trivial | exact Vs.val _ | exact Vs.ro _ | refine Vs.agg' ?_ | refine ⟨?_, ?_⟩)); done)); rotate_left 1; all_goals (try (skip)))))); (try all_goals (try show retA _ _ _ _ _ _ _))
      all_goals first
        | (exfalso; omega)
        | (exfalso; simp_all; done)
        | skip
      clear call k2
      refine w_loop (X := Nat) [1, 3, 4, 5] (by simp only [keepv, getv_cons, Nat.reduceEqDiff, ↓reduceIte]; exact rfl) (fun j => [(6, .val (.int .i64 (lsN L j))), (7, .val (.int .i64 (j : Nat)))]) (fun _ => [.gone]) (fun j => j ≤ L.length) (fun j => L.length - j) (0) ([0]) ?_ ?_ rfl ?_ <;> (try dsimp only [List.cons_append, List.nil_append])
      · exact Nat.zero_le _
      · (refine St.le_mk rfl (VwOs.mk (by decide) ?_) ?_ <;> (repeat' (first | exact trivial | exact vwR rfl | exact VwO.gone _ | refine ⟨⟨_, rfl, ?_⟩, ?_⟩ | refine ⟨?_, ?_⟩ )))
      rintro j hj
      by_cases hjl : j < L.length
      · have hs : lsN L (j + 1) = if L.getD j 0 < lsN L j then L.getD j 0 else lsN L j := rfl
        by_cases hlt : L.getD j 0 < lsN L j
        · rw [if_pos hlt] at hs
          (repeat' (first | refine a_seq ?_ | refine a_block ?_ | refine a_skip ?_ | refine a_region ?_ | refine l_nil ?_ | (apply w_q; (focus (first | exact Q_move (by conv => lhs; whnf) | exact Q_assign (by conv => lhs; whnf) | exact Q_lss rfl rfl | exact Q_add rfl rfl (by omega) | exact Q_ix_ints rfl rfl rfl KSl.h (by omega) | exact Q_ld_ints rfl (by omega) KSc.h | exact Q_len_ints rfl KSl.h)); (focus exact rfl)) | (refine a_cond rfl ?_ ?_ <;> (intro h; (try (have hp := of_decide_eq_true h)); (try (have hp := of_decide_eq_false h)); (try contradiction); (try (exfalso; omega)))))); (try all_goals (try show retA _ _ _ _ _ _ _))
          all_goals first
            | (exfalso; omega)
            | (try dsimp only [thenA, blockA]
               refine ⟨j + 1, [0], ?_, ?_, ?_, rfl⟩ <;> (try dsimp only)
               · show j + 1 ≤ L.length; omega
               · show L.length - (j + 1) < L.length - j; omega
               · rw [hs]; (refine St.le_mk rfl (VwOs.mk (by decide) ?_) ?_ <;> (repeat' (first | exact trivial | exact vwR rfl | exact VwO.gone _ | refine ⟨⟨_, rfl, ?_⟩, ?_⟩ | refine ⟨?_, ?_⟩ ))))
            | (all_goals trace_state); fail
        · rw [if_neg hlt] at hs
          (repeat' (first | refine a_seq ?_ | refine a_block ?_ | refine a_skip ?_ | refine a_region ?_ | refine l_nil ?_ | (apply w_q; (focus (first | exact Q_move (by conv => lhs; whnf) | exact Q_assign (by conv => lhs; whnf) | exact Q_lss rfl rfl | exact Q_add rfl rfl (by omega) | exact Q_ix_ints rfl rfl rfl KSl.h (by omega) | exact Q_ld_ints rfl (by omega) KSc.h | exact Q_len_ints rfl KSl.h)); (focus exact rfl)) | (refine a_cond rfl ?_ ?_ <;> (intro h; (try (have hp := of_decide_eq_true h)); (try (have hp := of_decide_eq_false h)); (try contradiction); (try (exfalso; omega)))))); (try all_goals (try show retA _ _ _ _ _ _ _))
          all_goals first
            | (exfalso; omega)
            | (try dsimp only [thenA, blockA]
               refine ⟨j + 1, [0], ?_, ?_, ?_, rfl⟩ <;> (try dsimp only)
               · show j + 1 ≤ L.length; omega
               · show L.length - (j + 1) < L.length - j; omega
               · rw [hs]; (refine St.le_mk rfl (VwOs.mk (by decide) ?_) ?_ <;> (repeat' (first | exact trivial | exact vwR rfl | exact VwO.gone _ | refine ⟨⟨_, rfl, ?_⟩, ?_⟩ | refine ⟨?_, ?_⟩ ))))
            | (all_goals trace_state); fail
      · obtain rfl : j = L.length := by omega
        generalize lsN L L.length = M at *
        by_cases hk2 : k = 2
        · have n3 : ¬ M ≤ last := n3.resolve_left (fun h => h hk2)
          (repeat' (first | refine a_seq ?_ | refine a_skip ?_ | refine a_exit ?_ | refine a_region ?_ | refine l_nil ?_ | (apply w_q; (focus (first | exact Q_move (by conv => lhs; whnf) | exact Q_assign (by conv => lhs; whnf) | exact Q_fieldAddr_rpt rfl KFl.h | exact Q_lss rfl rfl | exact Q_leq rfl rfl | exact Q_eql rfl rfl | exact Q_add rfl rfl (by omega) | exact Q_ld_rv rfl rfl KSc.h | exact Q_len_ints rfl KSl.h | exact Q_pick_t rfl (by assumption) (by conv => lhs; whnf))); (focus exact rfl)) | (refine a_cond rfl ?_ ?_ <;> (intro h; (try (have hp := of_decide_eq_true h)); (try (have hp := of_decide_eq_false h)); (try contradiction); (try (exfalso; omega)))) | refine w_guard_y rfl rfl rfl (by first | assumption | rfl) ?_ | (refine w_guard rfl rfl rfl ?_ ?_ <;> (intro h; (try (have hp := of_decide_eq_true h)); (try (have hp := of_decide_eq_false h)); (try contradiction); (try (exfalso; omega)))))); (try all_goals (try show retA _ _ _ _ _ _ _))
          all_goals first
            | (exfalso; omega)
            | (try dsimp only [thenA, blockA]
               refine ⟨(i + 1, M), [0], ?_, ?_, ?_, rfl⟩ <;> (try dsimp only)
               · exact ⟨by show i + 1 ≤ l.length; omega, n4⟩
               · show l.length - (i + 1) < l.length - i; omega
               · (refine St.le_mk rfl (VwOs.mk (by decide) ?_) ?_ <;> (repeat' (first | exact trivial | exact vwR rfl | exact VwO.gone _ | refine ⟨⟨_, rfl, ?_⟩, ?_⟩ | refine ⟨?_, ?_⟩ ))))
            | (all_goals trace_state); fail
        · (repeat' (first | refine a_seq ?_ | refine a_skip ?_ | refine a_exit ?_ | refine a_region ?_ | refine l_nil ?_ | (apply w_q; (focus (first | exact Q_move (by conv => lhs; whnf) | exact Q_assign (by conv => lhs; whnf) | exact Q_fieldAddr_rpt rfl KFl.h | exact Q_lss rfl rfl | exact Q_eql rfl rfl | exact Q_add rfl rfl (by omega) | exact Q_ld_rv rfl rfl KSc.h | exact Q_len_ints rfl KSl.h | exact Q_pick_f rfl (by assumption) (by conv => lhs; whnf))); (focus exact rfl)) | (refine a_cond rfl ?_ ?_ <;> (intro h; (try (have hp := of_decide_eq_true h)); (try (have hp := of_decide_eq_false h)); (try contradiction); (try (exfalso; omega)))) | refine w_guard_n rfl rfl rfl (by first | assumption | rfl) ?_ | (refine w_guard rfl rfl rfl ?_ ?_ <;> (intro h; (try (have hp := of_decide_eq_true h)); (try (have hp := of_decide_eq_false h)); (try contradiction); (try (exfalso; omega)))))); (try all_goals (try show retA _ _ _ _ _ _ _))
          all_goals first
            | (exfalso; omega)
            | (try dsimp only [thenA, blockA]
               refine ⟨(i + 1, M), [0], ?_, ?_, ?_, rfl⟩ <;> (try dsimp only)
               · exact ⟨by show i + 1 ≤ l.length; omega, n4⟩
               · show l.length - (i + 1) < l.length - i; omega
               · (refine St.le_mk rfl (VwOs.mk (by decide) ?_) ?_ <;> (repeat' (first | exact trivial | exact vwR rfl | exact VwO.gone _ | refine ⟨⟨_, rfl, ?_⟩, ?_⟩ | refine ⟨?_, ?_⟩ ))))
            | (all_goals trace_state); fail
    · (repeat' (first | refine a_seq ?_ | refine a_ret ?_ | refine a_exit ?_ | refine a_region ?_ | refine l_nil ?_ | (apply w_q; (focus (first | exact Q_move (by conv => lhs; whnf) | exact Q_assign (by conv => lhs; whnf) | exact Q_fieldAddr_rpt rfl KFl.h | exact Q_lss rfl rfl | exact Q_ld_rs rfl rfl KSc.h)); (focus exact rfl)) | (refine a_cond rfl ?_ ?_ <;> (intro h; (try (have hp := of_decide_eq_true h)); (try (have hp := of_decide_eq_false h)); (try contradiction); (try (exfalso; omega)))) | (((first | apply w_q); (focus exact Q_len_kid rfl KSl.h); (focus exact rfl))))); (try all_goals (try show retA _ _ _ _ _ _ _))
      all_goals first
        | (exfalso; omega)
        | (refine ⟨[_], [], ⟨resV_tmp (by conv => lhs; whnf), trivial⟩, VwOs.mk (by decide) trivial, ?_, rfl⟩; (repeat' (first | exact vwR rfl)); done)
        | (all_goals trace_state); fail
set_option maxRecDepth 20000 in
set_option maxHeartbeats 4000000 in
theorem SameTerm_no : AC Tryd.prog 22 [ta3 0 0 [], ta3 0 0 []] [] (.val (.bool true)) [] := by
  unfold ta3
  refine AC.mk (n := 46) (fn := Tryd.f22) Tryd.func22 (by kernel_rfl) rfl rfl rfl rfl (fun cx => ?_); dsimp only [argv, Nat.reduceAdd]
  (repeat' (first | refine a_seq ?_ | refine a_block ?_ | refine a_skip ?_ | refine a_region ?_ | refine l_nil ?_ | (apply w_q; (focus (first | exact Q_move (by conv => lhs; whnf) | exact Q_assign (by conv => lhs; whnf) | exact Q_fieldAddr_ptr rfl KFl.h | exact Q_load_ptr rfl rfl rfl KSc.h | exact Q_neq rfl rfl | exact Q_pick_f rfl rfl (by conv => lhs; whnf))); (focus exact rfl)) | (refine a_cond rfl ?_ ?_ <;> (intro h; (try (have hp := of_decide_eq_true h)); (try (have hp := of_decide_eq_false h)); (try contradiction); (try (exfalso; omega)))) | refine w_guard_y rfl rfl rfl (by first | assumption | rfl) ?_ | refine w_box rfl rfl (by first|(dsimp only[obA,obB,obD,obE,obF,obG,obI,List.map,AO.sh,AV.sh,AV.shl,Nat.reduceAdd];done)|exact rfl) (by first|(dsimp only[obA,obB,obD,obE,obF,obG,obI,List.map,AO.sh,AV.sh,AV.shl,Nat.reduceAdd];done)|exact rfl) rfl ?_ | (((first | apply w_q); (focus exact Q_len_kid rfl KSl.h); (focus exact rfl))))); (try all_goals (try show retA _ _ _ _ _ _ _))
  all_goals first
    | (exfalso; omega)
    | (exfalso; simp_all; done)
    | skip
  refine w_loop (X := Nat) [2, 3] (by simp only [keepv, getv_cons, Nat.reduceEqDiff, ↓reduceIte]; exact rfl) (fun j => [(5, .val (.int .i64 (j : Nat)))]) (fun _ => [.box [.val (.int .i64 0), .val (.int .i64 0), tks []], .box [.val (.int .i64 0), .val (.int .i64 0), tks []]]) (fun j => j = 0) (fun _ => 0) (0) ([0, 1]) ?_ ?_ rfl ?_ <;> (try dsimp only [List.cons_append, List.nil_append])
  · (refine St.le_mk rfl (VwOs.mk (by decide) ?_) ?_ <;> (repeat' (first | exact trivial | exact vwR rfl | exact Vw.ro _ | exact Vw.ptr _ _ _ rfl | refine VwO.box' ?_ | refine ⟨⟨_, rfl, ?_⟩, ?_⟩ | refine ⟨?_, ?_⟩ )))
  rintro j rfl
  (repeat' (first | refine a_seq ?_ | refine a_ret ?_ | refine a_exit ?_ | refine a_region ?_ | refine l_nil ?_ | (apply w_q; (focus (first | exact Q_move (by conv => lhs; whnf) | exact Q_assign (by conv => lhs; whnf) | exact Q_fieldAddr_ptr rfl KFl.h | exact Q_load_ptr rfl rfl rfl KSc.h | exact Q_lss rfl rfl)); (focus exact rfl)) | (refine a_cond rfl ?_ ?_ <;> (intro h; (try (have hp := of_decide_eq_true h)); (try (have hp := of_decide_eq_false h)); (try contradiction); (try (exfalso; omega)))) | (((first | apply w_q); (focus exact Q_len_kid rfl KSl.h); (focus exact rfl))))); (try all_goals (try show retA _ _ _ _ _ _ _))
  all_goals first
    | (exfalso; omega)
    | (exfalso; simp_all; done)
    | (refine ⟨[_], [], ⟨resV_tmp (by conv => lhs; whnf), trivial⟩, VwOs.mk (by decide) trivial, ?_, rfl⟩; (repeat' (first | exact vwR rfl)); done)
    | (all_goals trace_state); fail
end Go.Proofs.YtbgecpjlopdkfaaDoor
