import Derived.Test.YtbgecpjlopdkfaaDoorHgc
import Derived.Test.YtbgecpjlopdkfaaDoorFkb
set_option linter.unusedSimpArgs false
set_option linter.unusedVariables false
set_option linter.unusedSectionVars false
set_option maxRecDepth 20000
namespace Go.Proofs.YtbgecpjlopdkfaaDoor
attribute [local irreducible] QOp aL aC qL
section
variable {n : Nat} {ns : List Nat} (hn : n ≤ 10) (hv : Vld n ns)
include hn hv
theorem pvB_bit {bad : Nat} (p : Nat) : ∀ m, (pvB ns bad m).testBit p = true ↔ bad.testBit p = true ∨ ∃ i, i < m ∧ (ns.getD ((mbs bad).getD i 0) 0).testBit p = true
  | 0 => by
    unfold pvB
    constructor
    · exact .inl
    · rintro (h | ⟨i, hi, _⟩)
      · exact h
      · omega
  | m + 1 => by
    unfold pvB
    rw [Nat.testBit_or, Bool.or_eq_true, pvB_bit p m]
    constructor
    · rintro ((h | ⟨i, hi, h⟩) | h)
      · exact .inl h
      · exact .inr ⟨i, by omega, h⟩
      · exact .inr ⟨m, by omega, h⟩
    · rintro (h | ⟨i, hi, h⟩)
      · exact .inl (.inl h)
      · by_cases e : i = m
        · subst e; exact .inr h
        · exact .inl (.inr ⟨i, by omega, h⟩)
theorem imp_bit {bad p : Nat} (hb : bad < 2 ^ n) (hp : p < n) : (ndiff (2 ^ n - 1) (pvB ns bad (mbs bad).length)).testBit p = true ↔ ∀ q, q < n → (decide (p = q) || lt ns p q) = true → bad.testBit q = false := by
  have hpn : 2 ^ n ≤ 1024 := Nat.pow_le_pow_right (n := 2) (by decide) hn
  rw [testBit_ndiff, Nat.testBit_two_pow_sub_one, decide_eq_true hp, Bool.true_and, Bool.not_eq_true', Bool.eq_false_iff]
  have hpv := pvB_bit hn hv (bad := bad) p (mbs bad).length
  rw [ne_eq, hpv]
  constructor
  · intro h q hq hu
    rw [Bool.eq_false_iff]
    intro hbq
    rw [Bool.or_eq_true, decide_eq_true_eq] at hu
    rcases hu with rfl | hu
    · exact h (.inl hbq)
    · refine h (.inr ?_)
      obtain ⟨i, hi, e⟩ := List.getElem_of_mem ((mbs_mem (by omega)).2 hbq)
      refine ⟨i, hi, ?_⟩
      have eg : (mbs bad).getD i 0 = q := by
        rw [List.getD_eq_getElem?_getD, List.getElem?_eq_getElem hi]; exact e
      rw [eg]; exact hu
  · intro h hc
    rcases hc with hc | ⟨i, hi, hc⟩
    · rw [h p hp (by simp)] at hc; cases hc
    · have hm : (mbs bad).getD i 0 ∈ mbs bad := by rw [List.getD_eq_getElem?_getD, List.getElem?_eq_getElem hi]; exact List.getElem_mem hi
      have hbq := (mbs_mem (by omega)).1 hm
      have hqn : (mbs bad).getD i 0 < n := lt_lt' hv.1 (a := p) hc
      rw [h _ hqn (by rw [show lt ns p ((mbs bad).getD i 0) = true from hc, Bool.or_true])] at hbq
      cases hbq
set_option maxRecDepth 20000 in
set_option maxHeartbeats 4000000 in
theorem ForcesAt_ac {vs : List Nat} (hvs : vs.length = 3 ∧ ∀ i, i < 3 → vs.getD i 0 < 2 ^ n) : ∀ (d : Nat) (k v : Int) (l : List Tr), 1 + kdep l ≤ d → (Tr.mk k v l).ffm = 0 → ∀ p, p < n →
    AC Tryd.prog 38 [ordv n (nl ns), ints (nl vs), .val (.int .i64 (p : Nat)), ta3 k v l] [] (.val (.bool ((frF n ns vs d (.mk k v l)).testBit p))) []
  | 0, k, v, l, hd, _, _, _ => by omega
  | d + 1, k, v, l, hd, hf, p, hp => by
    obtain ⟨⟨w, rfl, hw, hw0⟩, hc⟩ := ffm_zero hf
    have hvl : (nl vs).length = 3 := by rw [nl_len]; exact hvs.1
    have hpn : 2 ^ n ≤ 1024 := Nat.pow_le_pow_right (n := 2) (by decide) hn
    rcases hc with ⟨hk, rfl⟩ | ⟨hk, k1, v1, l1, k2, v2, l2, rfl, f1, f2⟩
    · rcases hk with rfl | rfl
      · have he : (frF n ns vs (d + 1) (.mk 1 (w : Int) [])).testBit p = false := by
          show (0 : Nat).testBit p = false
          exact Nat.zero_testBit p
        rw [he]
        generalize nl vs = VV at *
        unfold ta3 tks at *
        refine AC.mk (n := 94) (fn := Tryd.f38) Tryd.func38 (by kernel_rfl) rfl rfl rfl rfl (fun cx => ?_); dsimp only [argv, Nat.reduceAdd]
        (repeat' (first | refine a_seq ?_ | refine a_block ?_ | refine a_ret ?_ | refine a_region ?_ | refine l_nil ?_ | (apply w_q; (focus (first | exact Q_assign (by conv => lhs; whnf) | exact Q_fieldAddr_ptr rfl KFl.h | exact Q_load_ptr rfl rfl rfl KSc.h | exact Q_eql rfl rfl)); (focus exact rfl)) | (refine a_cond rfl ?_ ?_ <;> (intro h; (try (have hp := of_decide_eq_true h)); (try (have hp := of_decide_eq_false h)); (try contradiction); (try (exfalso; omega)))) | refine w_box rfl rfl (by first|(dsimp only[obA,obB,obD,obE,obF,obG,obI,List.map,AO.sh,AV.sh,AV.shl,Nat.reduceAdd];done)|exact rfl) (by first|(dsimp only[obA,obB,obD,obE,obF,obG,obI,List.map,AO.sh,AV.sh,AV.shl,Nat.reduceAdd];done)|exact rfl) rfl ?_)); (try all_goals (try show retA _ _ _ _ _ _ _))
        all_goals first
          | (exfalso; omega)
          | (exfalso; simp_all; done)
          | (refine ⟨[_], [], ⟨resV_tmp (by conv => lhs; whnf), trivial⟩, VwOs.mk (by decide) trivial, ?_, rfl⟩; (repeat' (first | exact vwR rfl)); done)
          | (all_goals trace_state); fail
      · have he : frF n ns vs (d + 1) (.mk 2 (w : Int) []) = vs.getD w 0 := by
          show (if (2 : Int) = 2 then vs.getD (w : Int).toNat 0 else _) = _
          rw [if_pos rfl, Int.toNat_natCast]
        have hw3 := hvs.2 w hw
        have kI := In_ac (vs.getD w 0) p (by omega) (by omega)
        have hvl2 : vs.length = 3 := hvs.1
        rw [he]
        clear he
        unfold ta3 tks at *
        refine AC.mk (n := 94) (fn := Tryd.f38) Tryd.func38 (by kernel_rfl) rfl rfl rfl rfl (fun cx => ?_); dsimp only [argv, Nat.reduceAdd]
        (repeat' (first | refine a_seq ?_ | refine a_block ?_ | refine a_ret ?_ | refine a_region ?_ | refine l_nil ?_ | (apply w_q; (focus (first | exact Q_move (by conv => lhs; whnf) | exact Q_assign (by conv => lhs; whnf) | exact Q_fieldAddr_ptr rfl KFl.h | exact Q_load_ptr rfl rfl rfl KSc.h | exact Q_eql rfl rfl | exact Q_ix_nats rfl rfl rfl KSl.h (by omega) | exact Q_ld_nats rfl (by omega) KSc.h)); (focus exact rfl)) | (refine a_cond rfl ?_ ?_ <;> (intro h; (try (have hp := of_decide_eq_true h)); (try (have hp := of_decide_eq_false h)); (try contradiction); (try (exfalso; omega)))) | refine w_box rfl rfl (by first|(dsimp only[obA,obB,obD,obE,obF,obG,obI,List.map,AO.sh,AV.sh,AV.shl,Nat.reduceAdd];done)|exact rfl) (by first|(dsimp only[obA,obB,obD,obE,obF,obG,obI,List.map,AO.sh,AV.sh,AV.shl,Nat.reduceAdd];done)|exact rfl) rfl ?_ | (((first | apply w_q); (focus (refine Q_call (.inl ⟨rfl, rfl⟩) (kI) ?_; ((repeat' (first | exact vwRL rfl)); done))); (focus exact rfl))))); (try all_goals (try show retA _ _ _ _ _ _ _))
        all_goals first
          | (exfalso; omega)
          | (exfalso; simp_all; done)
          | (refine ⟨[_], [], ⟨resV_tmp (by conv => lhs; whnf), trivial⟩, VwOs.mk (by decide) trivial, ?_, rfl⟩; (repeat' (first | exact vwR rfl)); done)
          | (all_goals trace_state); fail
    · obtain rfl := hw0 (by omega)
      rw [kdep_two] at hd
      have d1 : (Tr.mk k1 v1 l1).dep = 1 + kdep l1 := by unfold Tr.dep; rfl
      have d2 : (Tr.mk k2 v2 l2).dep = 1 + kdep l2 := by unfold Tr.dep; rfl
      have p1 := fun q hq => ForcesAt_ac hvs d k1 v1 l1 (by omega) f1 q hq
      have p2 := fun q hq => ForcesAt_ac hvs d k2 v2 l2 (by omega) f2 q hq
      have g1 := frF_lt hn hv hvs d (.mk k1 v1 l1) (by omega) f1
      have g2 := frF_lt hn hv hvs d (.mk k2 v2 l2) (by omega) f2
      rcases hk with rfl | rfl | rfl
      · have q1 := p1 p hp
        have q2 := p2 p hp
        have he : (frF n ns vs (d + 1) (.mk 3 ((0 : Nat) : Int) [.mk k1 v1 l1, .mk k2 v2 l2])).testBit p = ((frF n ns vs d (.mk k1 v1 l1)).testBit p && (frF n ns vs d (.mk k2 v2 l2)).testBit p) := by
          show (frF n ns vs d (.mk k1 v1 l1) &&& frF n ns vs d (.mk k2 v2 l2)).testBit p = _
          exact Nat.testBit_and ..
        rw [he]
        clear he p1 p2
        generalize (frF n ns vs d (.mk k1 v1 l1)).testBit p = x at *
        generalize (frF n ns vs d (.mk k2 v2 l2)).testBit p = y at *
        generalize nl vs = VV at *
        clear hd d1 d2 hf hvs
        unfold ta3 tks at *
        cases x
        all_goals
          refine AC.mk (n := 94) (fn := Tryd.f38) Tryd.func38 (by kernel_rfl) rfl rfl rfl rfl (fun cx => ?_); dsimp only [argv, Nat.reduceAdd]
          (repeat' (first | refine a_seq ?_ | refine a_region ?_ | refine l_nil ?_ | (apply w_q; (focus (first | exact Q_assign (by conv => lhs; whnf))); (focus exact rfl)) | refine w_box rfl rfl (by first|(dsimp only[obA,obB,obD,obE,obF,obG,obI,List.map,AO.sh,AV.sh,AV.shl,Nat.reduceAdd];done)|exact rfl) (by first|(dsimp only[obA,obB,obD,obE,obF,obG,obI,List.map,AO.sh,AV.sh,AV.shl,Nat.reduceAdd];done)|exact rfl) rfl ?_)); (try all_goals (try show retA _ _ _ _ _ _ _))
          refine w_freezeB 0 [.val (.int .i64 n), .sl 1 (intc (nl ns))] rfl rfl (by simp only [fbv_nil, fbv_cons, fbl_nil, fbl_cons, fbo_nil, fbo_cons, fbo_box, fbo_row, fbo_gone, fb_own, fb_val, fb_ro, fb_rpt, fb_ptr, fb_ept, fb_agg, fb_tup, fb_clo, fb_ints, fb_rows, fb_pairs, fb_ords, Nat.reduceEqDiff, ↓reduceIte, List.set_cons_zero, List.set_cons_succ]; exact rfl) (by simp only [fbv_nil, fbv_cons, fbl_nil, fbl_cons, fbo_nil, fbo_cons, fbo_box, fbo_row, fbo_gone, fb_own, fb_val, fb_ro, fb_rpt, fb_ptr, fb_ept, fb_agg, fb_tup, fb_clo, fb_ints, fb_rows, fb_pairs, fb_ords, Nat.reduceEqDiff, ↓reduceIte, List.set_cons_zero, List.set_cons_succ]; exact rfl) ?_
          refine w_freezeB 1 [.val (.int .i64 3), .val (.int .i64 ((0 : Nat) : Int)), .sl 3 (kdc [.mk k1 v1 l1, .mk k2 v2 l2])] rfl rfl (by simp only [fbv_nil, fbv_cons, fbl_nil, fbl_cons, fbo_nil, fbo_cons, fbo_box, fbo_row, fbo_gone, fb_own, fb_val, fb_ro, fb_rpt, fb_ptr, fb_ept, fb_agg, fb_tup, fb_clo, fb_ints, fb_rows, fb_pairs, fb_ords, Nat.reduceEqDiff, ↓reduceIte, List.set_cons_zero, List.set_cons_succ]; exact rfl) (by simp only [fbv_nil, fbv_cons, fbl_nil, fbl_cons, fbo_nil, fbo_cons, fbo_box, fbo_row, fbo_gone, fb_own, fb_val, fb_ro, fb_rpt, fb_ptr, fb_ept, fb_agg, fb_tup, fb_clo, fb_ints, fb_rows, fb_pairs, fb_ords, Nat.reduceEqDiff, ↓reduceIte, List.set_cons_zero, List.set_cons_succ]; exact rfl) ?_
          (repeat' (first | refine a_seq ?_ | refine a_block ?_ | refine a_ret ?_ | refine a_region ?_ | refine l_nil ?_ | refine q_nil ?_ | ((first | apply w_q | apply w_qq); (focus (first | exact Q_move (by conv => lhs; whnf) | exact Q_assign (by conv => lhs; whnf) | exact Q_fieldAddr_rpt rfl KFl.h | exact Q_eql rfl rfl | exact Q_ld_rpa rfl KAg.h rfl rfl (by first | (dsimp only [List.drop_zero, List.drop_succ_cons, List.take_succ_cons, List.take_zero, List.map, ofD]; done) | exact rfl) | exact Q_ld_rv rfl rfl KSc.h | exact Q_ld_rs rfl rfl KSc.h | exact Q_pick_t rfl (by assumption) (by conv => lhs; whnf) | exact Q_pick_f rfl (by assumption) (by conv => lhs; whnf))); (focus exact rfl)) | (refine a_cond rfl ?_ ?_ <;> (intro h; (try (have hp := of_decide_eq_true h)); (try (have hp := of_decide_eq_false h)); (try contradiction); (try (exfalso; omega)))) | refine w_qguard_y rfl rfl rfl (by first | assumption | rfl) ?_ | refine w_qguard_n rfl rfl rfl (by first | assumption | rfl) ?_ | refine a_draw (by kernel_rfl) (by kernel_rfl) ?_ | (((first | apply w_qq); (focus exact Q_ix_kid (o := 0) rfl rfl rfl KSl.h (Nat.succ_pos 1)); (focus exact rfl))) | (((first | apply w_qq); (focus exact Q_ix_kid (o := 1) rfl rfl rfl KSl.h (Nat.lt_succ_self 1)); (focus exact rfl))) | (((first | apply w_qq); (focus (refine Q_call (.inl ⟨rfl, rfl⟩) (q1) ?_; ((repeat' (first | exact trivial | exact vwR rfl | exact vwRL rfl | exact Vw.ro _ | refine Vw.agg' ?_ | refine ⟨?_, ?_⟩ )); done))); (focus exact rfl))) | (((first | apply w_qq); (focus (refine Q_call (.inl ⟨rfl, rfl⟩) (q2) ?_; ((repeat' (first | exact trivial | exact vwR rfl | exact vwRL rfl | exact Vw.ro _ | refine Vw.agg' ?_ | refine ⟨?_, ?_⟩ )); done))); (focus exact rfl))))); (try all_goals (try show retA _ _ _ _ _ _ _))
        all_goals first
          | (exfalso; omega)
          | (exfalso; simp_all; done)
          | (refine ⟨[_], [], ⟨resV_tmp (by conv => lhs; whnf), trivial⟩, VwOs.mk (by decide) trivial, ?_, rfl⟩; (repeat' (first | exact vwR rfl)); done)
          | (refine ⟨[_], [], ⟨resV_tmp (by conv => lhs; whnf), trivial⟩, VwOs.mk (by decide) trivial, ?_, rfl⟩; exact Vw.bool' (by simp))
          | (all_goals trace_state); fail
      · have q1 := p1 p hp
        have q2 := p2 p hp
        have he : (frF n ns vs (d + 1) (.mk 4 ((0 : Nat) : Int) [.mk k1 v1 l1, .mk k2 v2 l2])).testBit p = ((frF n ns vs d (.mk k1 v1 l1)).testBit p || (frF n ns vs d (.mk k2 v2 l2)).testBit p) := by
          show (frF n ns vs d (.mk k1 v1 l1) ||| frF n ns vs d (.mk k2 v2 l2)).testBit p = _
          exact Nat.testBit_or ..
        rw [he]
        clear he p1 p2
        generalize (frF n ns vs d (.mk k1 v1 l1)).testBit p = x at *
        generalize (frF n ns vs d (.mk k2 v2 l2)).testBit p = y at *
        generalize nl vs = VV at *
        clear hd d1 d2 hf hvs
        unfold ta3 tks at *
        cases x
        all_goals
          refine AC.mk (n := 94) (fn := Tryd.f38) Tryd.func38 (by kernel_rfl) rfl rfl rfl rfl (fun cx => ?_); dsimp only [argv, Nat.reduceAdd]
          (repeat' (first | refine a_seq ?_ | refine a_region ?_ | refine l_nil ?_ | (apply w_q; (focus (first | exact Q_assign (by conv => lhs; whnf))); (focus exact rfl)) | refine w_box rfl rfl (by first|(dsimp only[obA,obB,obD,obE,obF,obG,obI,List.map,AO.sh,AV.sh,AV.shl,Nat.reduceAdd];done)|exact rfl) (by first|(dsimp only[obA,obB,obD,obE,obF,obG,obI,List.map,AO.sh,AV.sh,AV.shl,Nat.reduceAdd];done)|exact rfl) rfl ?_)); (try all_goals (try show retA _ _ _ _ _ _ _))
          refine w_freezeB 0 [.val (.int .i64 n), .sl 1 (intc (nl ns))] rfl rfl (by simp only [fbv_nil, fbv_cons, fbl_nil, fbl_cons, fbo_nil, fbo_cons, fbo_box, fbo_row, fbo_gone, fb_own, fb_val, fb_ro, fb_rpt, fb_ptr, fb_ept, fb_agg, fb_tup, fb_clo, fb_ints, fb_rows, fb_pairs, fb_ords, Nat.reduceEqDiff, ↓reduceIte, List.set_cons_zero, List.set_cons_succ]; exact rfl) (by simp only [fbv_nil, fbv_cons, fbl_nil, fbl_cons, fbo_nil, fbo_cons, fbo_box, fbo_row, fbo_gone, fb_own, fb_val, fb_ro, fb_rpt, fb_ptr, fb_ept, fb_agg, fb_tup, fb_clo, fb_ints, fb_rows, fb_pairs, fb_ords, Nat.reduceEqDiff, ↓reduceIte, List.set_cons_zero, List.set_cons_succ]; exact rfl) ?_
          refine w_freezeB 1 [.val (.int .i64 4), .val (.int .i64 ((0 : Nat) : Int)), .sl 3 (kdc [.mk k1 v1 l1, .mk k2 v2 l2])] rfl rfl (by simp only [fbv_nil, fbv_cons, fbl_nil, fbl_cons, fbo_nil, fbo_cons, fbo_box, fbo_row, fbo_gone, fb_own, fb_val, fb_ro, fb_rpt, fb_ptr, fb_ept, fb_agg, fb_tup, fb_clo, fb_ints, fb_rows, fb_pairs, fb_ords, Nat.reduceEqDiff, ↓reduceIte, List.set_cons_zero, List.set_cons_succ]; exact rfl) (by simp only [fbv_nil, fbv_cons, fbl_nil, fbl_cons, fbo_nil, fbo_cons, fbo_box, fbo_row, fbo_gone, fb_own, fb_val, fb_ro, fb_rpt, fb_ptr, fb_ept, fb_agg, fb_tup, fb_clo, fb_ints, fb_rows, fb_pairs, fb_ords, Nat.reduceEqDiff, ↓reduceIte, List.set_cons_zero, List.set_cons_succ]; exact rfl) ?_
          (repeat' (first | refine a_seq ?_ | refine a_block ?_ | refine a_ret ?_ | refine a_region ?_ | refine l_nil ?_ | refine q_nil ?_ | ((first | apply w_q | apply w_qq); (focus (first | exact Q_move (by conv => lhs; whnf) | exact Q_assign (by conv => lhs; whnf) | exact Q_fieldAddr_rpt rfl KFl.h | exact Q_eql rfl rfl | exact Q_ld_rpa rfl KAg.h rfl rfl (by first | (dsimp only [List.drop_zero, List.drop_succ_cons, List.take_succ_cons, List.take_zero, List.map, ofD]; done) | exact rfl) | exact Q_ld_rv rfl rfl KSc.h | exact Q_ld_rs rfl rfl KSc.h | exact Q_pick_t rfl (by assumption) (by conv => lhs; whnf) | exact Q_pick_f rfl (by assumption) (by conv => lhs; whnf))); (focus exact rfl)) | (refine a_cond rfl ?_ ?_ <;> (intro h; (try (have hp := of_decide_eq_true h)); (try (have hp := of_decide_eq_false h)); (try contradiction); (try (exfalso; omega)))) | refine w_qguard_y rfl rfl rfl (by first | assumption | rfl) ?_ | refine w_qguard_n rfl rfl rfl (by first | assumption | rfl) ?_ | refine a_draw (by kernel_rfl) (by kernel_rfl) ?_ | (((first | apply w_qq); (focus exact Q_ix_kid (o := 0) rfl rfl rfl KSl.h (Nat.succ_pos 1)); (focus exact rfl))) | (((first | apply w_qq); (focus exact Q_ix_kid (o := 1) rfl rfl rfl KSl.h (Nat.lt_succ_self 1)); (focus exact rfl))) | (((first | apply w_qq); (focus (refine Q_call (.inl ⟨rfl, rfl⟩) (q1) ?_; ((repeat' (first | exact trivial | exact vwR rfl | exact vwRL rfl | exact Vw.ro _ | refine Vw.agg' ?_ | refine ⟨?_, ?_⟩ )); done))); (focus exact rfl))) | (((first | apply w_qq); (focus (refine Q_call (.inl ⟨rfl, rfl⟩) (q2) ?_; ((repeat' (first | exact trivial | exact vwR rfl | exact vwRL rfl | exact Vw.ro _ | refine Vw.agg' ?_ | refine ⟨?_, ?_⟩ )); done))); (focus exact rfl))))); (try all_goals (try show retA _ _ _ _ _ _ _))
        all_goals first
          | (exfalso; omega)
          | (exfalso; simp_all; done)
          | (refine ⟨[_], [], ⟨resV_tmp (by conv => lhs; whnf), trivial⟩, VwOs.mk (by decide) trivial, ?_, rfl⟩; (repeat' (first | exact vwR rfl)); done)
          | (refine ⟨[_], [], ⟨resV_tmp (by conv => lhs; whnf), trivial⟩, VwOs.mk (by decide) trivial, ?_, rfl⟩; exact Vw.bool' (by simp))
          | (all_goals trace_state); fail
      · have hb : ndiff (frF n ns vs d (.mk k1 v1 l1)) (frF n ns vs d (.mk k2 v2 l2)) < 2 ^ n := ndiff_lt g1
        have hib := imp_bit hn hv hb hp
        have hnb := fun q => testBit_ndiff (frF n ns vs d (.mk k1 v1 l1)) (frF n ns vs d (.mk k2 v2 l2)) q
        show AC _ _ _ [] (.val (.bool ((ndiff (2 ^ n - 1) (pvB ns (ndiff (frF n ns vs d (.mk k1 v1 l1)) (frF n ns vs d (.mk k2 v2 l2))) (mbs (ndiff (frF n ns vs d (.mk k1 v1 l1)) (frF n ns vs d (.mk k2 v2 l2)))).length)).testBit p))) []
        generalize (ndiff (2 ^ n - 1) (pvB ns (ndiff (frF n ns vs d (.mk k1 v1 l1)) (frF n ns vs d (.mk k2 v2 l2))) (mbs (ndiff (frF n ns vs d (.mk k1 v1 l1)) (frF n ns vs d (.mk k2 v2 l2)))).length)).testBit p = R at *
        have hle : ∀ x ∈ ns, x ≤ 9223372036854775807 := fun x hx => by have := hv.2 x hx; omega
        have hlen := hv.1
        have kU := fun q (hq : q < n) => Upto_ac n ns p q (by omega) (by omega) hle
        simp only [hnb] at hib
        generalize frF n ns vs d (.mk k1 v1 l1) = x at *
        generalize frF n ns vs d (.mk k2 v2 l2) = y at *
        generalize nl vs = VV at *
        clear hd d1 d2 hf hvs hnb hb
        unfold ta3 tks at *
        refine AC.mk (n := 94) (fn := Tryd.f38) Tryd.func38 (by kernel_rfl) rfl rfl rfl rfl (fun cx => ?_); dsimp only [argv, Nat.reduceAdd]
        (repeat' (first | refine a_seq ?_ | refine a_region ?_ | refine l_nil ?_ | (apply w_q; (focus (first | exact Q_assign (by conv => lhs; whnf))); (focus exact rfl)) | refine w_box rfl rfl (by first|(dsimp only[obA,obB,obD,obE,obF,obG,obI,List.map,AO.sh,AV.sh,AV.shl,Nat.reduceAdd];done)|exact rfl) (by first|(dsimp only[obA,obB,obD,obE,obF,obG,obI,List.map,AO.sh,AV.sh,AV.shl,Nat.reduceAdd];done)|exact rfl) rfl ?_)); (try all_goals (try show retA _ _ _ _ _ _ _))
        refine w_freezeB 0 [.val (.int .i64 n), .sl 1 (intc (nl ns))] rfl rfl (by simp only [fbv_nil, fbv_cons, fbl_nil, fbl_cons, fbo_nil, fbo_cons, fbo_box, fbo_row, fbo_gone, fb_own, fb_val, fb_ro, fb_rpt, fb_ptr, fb_ept, fb_agg, fb_tup, fb_clo, fb_ints, fb_rows, fb_pairs, fb_ords, Nat.reduceEqDiff, ↓reduceIte, List.set_cons_zero, List.set_cons_succ]; exact rfl) (by simp only [fbv_nil, fbv_cons, fbl_nil, fbl_cons, fbo_nil, fbo_cons, fbo_box, fbo_row, fbo_gone, fb_own, fb_val, fb_ro, fb_rpt, fb_ptr, fb_ept, fb_agg, fb_tup, fb_clo, fb_ints, fb_rows, fb_pairs, fb_ords, Nat.reduceEqDiff, ↓reduceIte, List.set_cons_zero, List.set_cons_succ]; exact rfl) ?_
        refine w_freezeB 1 [.val (.int .i64 5), .val (.int .i64 ((0 : Nat) : Int)), .sl 3 (kdc [.mk k1 v1 l1, .mk k2 v2 l2])] rfl rfl (by simp only [fbv_nil, fbv_cons, fbl_nil, fbl_cons, fbo_nil, fbo_cons, fbo_box, fbo_row, fbo_gone, fb_own, fb_val, fb_ro, fb_rpt, fb_ptr, fb_ept, fb_agg, fb_tup, fb_clo, fb_ints, fb_rows, fb_pairs, fb_ords, Nat.reduceEqDiff, ↓reduceIte, List.set_cons_zero, List.set_cons_succ]; exact rfl) (by simp only [fbv_nil, fbv_cons, fbl_nil, fbl_cons, fbo_nil, fbo_cons, fbo_box, fbo_row, fbo_gone, fb_own, fb_val, fb_ro, fb_rpt, fb_ptr, fb_ept, fb_agg, fb_tup, fb_clo, fb_ints, fb_rows, fb_pairs, fb_ords, Nat.reduceEqDiff, ↓reduceIte, List.set_cons_zero, List.set_cons_succ]; exact rfl) ?_
        (repeat' (first | refine a_seq ?_ | refine a_block ?_ | refine a_skip ?_ | refine a_region ?_ | refine l_nil ?_ | (apply w_q; (focus (first | exact Q_assign (by conv => lhs; whnf) | exact Q_fieldAddr_rpt rfl KFl.h | exact Q_eql rfl rfl | exact Q_ld_rv rfl rfl KSc.h)); (focus exact rfl)) | (refine a_cond rfl ?_ ?_ <;> (intro h; (try (have hp := of_decide_eq_true h)); (try (have hp := of_decide_eq_false h)); (try contradiction); (try (exfalso; omega)))))); (try all_goals (try show retA _ _ _ _ _ _ _))
        all_goals first
          | (exfalso; omega)
          | (exfalso; simp_all; done)
          | skip
        refine w_loop (X := Nat) [1, 2, 4, 7] (by simp only [keepv, getv_cons, Nat.reduceEqDiff, ↓reduceIte]; exact rfl) (fun q => [(9, .val (.int .i64 (q : Nat)))]) (fun _ => [.gone, .gone]) (fun q => q ≤ n ∧ ∀ q', q' < q → (decide (p = q') || lt ns p q') = true → (x.testBit q' && !y.testBit q') = false) (fun q => n - q) (0) ([0, 1]) ?_ ?_ rfl ?_ <;> (try dsimp only [List.cons_append, List.nil_append])
        · exact ⟨Nat.zero_le _, fun _ h => by omega⟩
        · (refine St.le_mk rfl (VwOs.mk (by decide) ?_) ?_ <;> (repeat' (first | exact trivial | exact vwR rfl | exact Vw.ro _ | exact VwO.gone _ | refine ⟨⟨_, rfl, ?_⟩, ?_⟩ | refine ⟨?_, ?_⟩ )))
        rintro q ⟨hq, hall⟩
        by_cases hqn : q < n
        · have u1 := kU q hqn
          have q1 := p1 q hqn
          have q2 := p2 q hqn
          have hno : (decide (p = q) || lt ns p q) = true → (x.testBit q && !y.testBit q) = true → R = false := fun h1 h2 => by
            rw [Bool.eq_false_iff]
            intro hR
            rw [hib.1 hR q hqn h1] at h2; cases h2
          have hnx : ((decide (p = q) || lt ns p q) = true → (x.testBit q && !y.testBit q) = false) → ∀ q', q' < q + 1 → (decide (p = q') || lt ns p q') = true → (x.testBit q' && !y.testBit q') = false := fun h q' hq' h1 => by
            by_cases e : q' = q
            · subst e; exact h h1
            · exact hall q' (by omega) h1
          clear kU p1 p2 hib hall
          generalize (decide (p = q) || lt ns p q) = b0 at *
          generalize x.testBit q = b1 at *
          generalize y.testBit q = b2 at *
          cases b0 <;> cases b1 <;> cases b2
          all_goals
            (repeat' (first | refine a_seq ?_ | refine a_block ?_ | refine a_skip ?_ | refine a_ret ?_ | refine a_region ?_ | refine l_nil ?_ | refine q_nil ?_ | ((first | apply w_q | apply w_qq); (focus (first | exact Q_move (by conv => lhs; whnf) | exact Q_assign (by conv => lhs; whnf) | exact Q_fieldAddr_rpt rfl KFl.h | exact Q_lss rfl rfl | exact Q_add rfl rfl (by omega) | exact Q_ld_rpa rfl KAg.h rfl rfl (by first | (dsimp only [List.drop_zero, List.drop_succ_cons, List.take_succ_cons, List.take_zero, List.map, ofD]; done) | exact rfl) | exact Q_ld_rv rfl rfl KSc.h | exact Q_ld_rs rfl rfl KSc.h | exact Q_not rfl | exact Q_pick_f rfl (by assumption) (by conv => lhs; whnf) | exact Q_pick_t rfl rfl (by conv => lhs; whnf))); (focus exact rfl)) | (refine a_cond rfl ?_ ?_ <;> (intro h; (try (have hp := of_decide_eq_true h)); (try (have hp := of_decide_eq_false h)); (try contradiction); (try (exfalso; omega)))) | refine w_qguard_y rfl rfl rfl (by first | assumption | rfl) ?_ | refine w_qguard_n rfl rfl rfl (by first | assumption | rfl) ?_ | refine a_draw (by kernel_rfl) (by kernel_rfl) ?_ | (((first | apply w_qq); (focus exact Q_ix_kid (o := 0) rfl rfl rfl KSl.h (Nat.succ_pos 1)); (focus exact rfl))) | (((first | apply w_qq); (focus exact Q_ix_kid (o := 1) rfl rfl rfl KSl.h (Nat.lt_succ_self 1)); (focus exact rfl))) | (((first | apply w_qq); (focus (refine Q_call (.inl ⟨rfl, rfl⟩) (u1) ?_; ((repeat' (first | exact trivial | exact vwR rfl | exact vwRL rfl | exact Vw.ro _ | refine Vw.agg' ?_ | refine ⟨?_, ?_⟩ )); done))); (focus exact rfl))) | (((first | apply w_qq); (focus (refine Q_call (.inl ⟨rfl, rfl⟩) (q1) ?_; ((repeat' (first | exact trivial | exact vwR rfl | exact vwRL rfl | exact Vw.ro _ | refine Vw.agg' ?_ | refine ⟨?_, ?_⟩ )); done))); (focus exact rfl))) | (((first | apply w_qq); (focus (refine Q_call (.inl ⟨rfl, rfl⟩) (q2) ?_; ((repeat' (first | exact trivial | exact vwR rfl | exact vwRL rfl | exact Vw.ro _ | refine Vw.agg' ?_ | refine ⟨?_, ?_⟩ )); done))); (focus exact rfl))))); (try all_goals (try show retA _ _ _ _ _ _ _))
          all_goals first
            | (exfalso; omega)
            | (exfalso; simp_all; done)
            | (try dsimp only [thenA, blockA]
               refine ⟨q + 1, [0, 1], ?_, ?_, ?_, rfl⟩ <;> (try dsimp only)
               · exact ⟨by omega, hnx (by decide)⟩
               · omega
               · (refine St.le_mk rfl (VwOs.mk (by decide) ?_) ?_ <;> (repeat' (first | exact trivial | exact vwR rfl | exact Vw.ro _ | exact VwO.gone _ | refine ⟨⟨_, rfl, ?_⟩, ?_⟩ | refine ⟨?_, ?_⟩ ))))
            | (rw [hno rfl rfl]; refine ⟨[_], [], ⟨resV_tmp (by conv => lhs; whnf), trivial⟩, VwOs.mk (by decide) trivial, ?_, rfl⟩; (repeat' (first | exact vwR rfl)); done)
            | (all_goals trace_state); fail
        · have hR : R = true := hib.2 fun q' hq' h1 => hall q' (by omega) h1
          rw [hR]
          (repeat' (first | refine a_seq ?_ | refine a_ret ?_ | refine a_exit ?_ | refine a_region ?_ | refine l_nil ?_ | (apply w_q; (focus (first | exact Q_move (by conv => lhs; whnf) | exact Q_assign (by conv => lhs; whnf) | exact Q_fieldAddr_rpt rfl KFl.h | exact Q_lss rfl rfl | exact Q_ld_rv rfl rfl KSc.h)); (focus exact rfl)) | (refine a_cond rfl ?_ ?_ <;> (intro h; (try (have hp := of_decide_eq_true h)); (try (have hp := of_decide_eq_false h)); (try contradiction); (try (exfalso; omega)))))); (try all_goals (try show retA _ _ _ _ _ _ _))
          all_goals first
            | (exfalso; omega)
            | (refine ⟨[_], [], ⟨resV_tmp (by conv => lhs; whnf), trivial⟩, VwOs.mk (by decide) trivial, ?_, rfl⟩; (repeat' (first | exact vwR rfl)); done)
            | (all_goals trace_state); fail
end
end Go.Proofs.YtbgecpjlopdkfaaDoor
