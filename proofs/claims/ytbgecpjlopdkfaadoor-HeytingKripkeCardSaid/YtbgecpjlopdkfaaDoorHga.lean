import Derived.Test.YtbgecpjlopdkfaaDoorHfa
import Derived.Test.YtbgecpjlopdkfaaDoorHfb
import Derived.Test.YtbgecpjlopdkfaaDoorHej
import Derived.Test.YtbgecpjlopdkfaaDoorKa
import Derived.Test.YtbgecpjlopdkfaaDoorFd
set_option linter.unusedSimpArgs false
set_option linter.unusedVariables false
set_option linter.unusedSectionVars false
set_option maxRecDepth 20000
namespace Go.Proofs.YtbgecpjlopdkfaaDoor
attribute [local irreducible] QOp aL aC qL
/-- What lies in a set, or below one of its first points. -/
def pvB (ns : List Nat) (bad : Nat) : Nat → Nat
  | 0 => bad
  | i + 1 => pvB ns bad i ||| ns.getD ((mbs bad).getD i 0) 0
/-- The points that force a formula. -/
def frF (n : Nat) (ns : List Nat) (vs : List Nat) : Nat → Tr → Nat
  | 0, _ => 0
  | d + 1, .mk k v l => if k = 2 then vs.getD v.toNat 0 else if k = 3 then frF n ns vs d (l.getD 0 tf0) &&& frF n ns vs d (l.getD 1 tf0) else if k = 4 then frF n ns vs d (l.getD 0 tf0) ||| frF n ns vs d (l.getD 1 tf0)
    else if k = 5 then ndiff (2 ^ n - 1) (pvB ns (ndiff (frF n ns vs d (l.getD 0 tf0)) (frF n ns vs d (l.getD 1 tf0))) (mbs (ndiff (frF n ns vs d (l.getD 0 tf0)) (frF n ns vs d (l.getD 1 tf0)))).length) else 0
section
variable {n : Nat} {ns : List Nat} (hn : n ≤ 10) (hv : Vld n ns)
include hn hv
theorem bel_lt (p : Nat) : ns.getD p 0 < 2 ^ n := by
  rcases Nat.lt_or_ge p ns.length with h | h
  · rw [List.getD_eq_getElem?_getD, List.getElem?_eq_getElem h]; exact hv.2 _ (List.getElem_mem h)
  · rw [List.getD_eq_getElem?_getD, List.getElem?_eq_none h]; exact Nat.two_pow_pos n
theorem pvB_lt {bad : Nat} (hb : bad < 2 ^ n) : ∀ i, pvB ns bad i < 2 ^ n
  | 0 => hb
  | i + 1 => by
    unfold pvB
    exact Nat.or_lt_two_pow (pvB_lt hb i) (bel_lt hn hv _)
theorem frF_lt {vs : List Nat} (hvs : vs.length = 3 ∧ ∀ i, i < 3 → vs.getD i 0 < 2 ^ n) : ∀ (d : Nat) (t : Tr), t.dep ≤ d → t.ffm = 0 → frF n ns vs d t < 2 ^ n
  | 0, .mk k v l, hd, _ => by unfold Tr.dep at hd; omega
  | d + 1, .mk k v l, hd, hf => by
    obtain ⟨⟨w, rfl, hw, _⟩, hc⟩ := ffm_zero hf
    unfold Tr.dep at hd
    have hp := Nat.two_pow_pos n
    rcases hc with ⟨hk, rfl⟩ | ⟨hk, k1, v1, l1, k2, v2, l2, rfl, f1, f2⟩
    · rcases hk with rfl | rfl
      · exact hp
      · show (if (2 : Int) = 2 then vs.getD (w : Int).toNat 0 else _) < _
        rw [if_pos rfl, Int.toNat_natCast]; exact hvs.2 w hw
    · rw [kdep_two] at hd
      have g1 := frF_lt hvs d (.mk k1 v1 l1) (by omega) f1
      have g2 := frF_lt hvs d (.mk k2 v2 l2) (by omega) f2
      rcases hk with rfl | rfl | rfl
      · show frF n ns vs d (.mk k1 v1 l1) &&& frF n ns vs d (.mk k2 v2 l2) < _
        exact Nat.lt_of_le_of_lt Nat.and_le_left g1
      · show frF n ns vs d (.mk k1 v1 l1) ||| frF n ns vs d (.mk k2 v2 l2) < _
        exact Nat.or_lt_two_pow g1 g2
      · show ndiff (2 ^ n - 1) _ < _
        exact ndiff_lt (by omega)
set_option maxRecDepth 20000 in
set_option maxHeartbeats 4000000 in
theorem forces_ac {vs : List Nat} (hvs : vs.length = 3 ∧ ∀ i, i < 3 → vs.getD i 0 < 2 ^ n) : ∀ (d : Nat) (k v : Int) (l : List Tr), 1 + kdep l ≤ d → (Tr.mk k v l).ffm = 0 →
    AC Tryd.prog 85 [ordv n (nl ns), ints (nl vs), ta3 k v l] [] (.val (.int .i64 (frF n ns vs d (.mk k v l) : Nat))) []
  | 0, k, v, l, hd, _ => by omega
  | d + 1, k, v, l, hd, hf => by
    obtain ⟨⟨w, rfl, hw, hw0⟩, hc⟩ := ffm_zero hf
    have hvl : (nl vs).length = 3 := by rw [nl_len]; exact hvs.1
    have hnl : (nl ns).length = n := by rw [nl_len]; exact hv.1
    have hpn : 2 ^ n ≤ 1024 := Nat.pow_le_pow_right (n := 2) (by decide) hn
    have hpp := Nat.two_pow_pos n
    have hal : ((2 ^ n : Nat) : Int) - 1 = ((2 ^ n - 1 : Nat) : Int) := by omega
    rcases hc with ⟨hk, rfl⟩ | ⟨hk, k1, v1, l1, k2, v2, l2, rfl, f1, f2⟩
    · rcases hk with rfl | rfl
      · show AC _ _ _ [] (.val (.int .i64 ((0 : Nat) : Int))) []
        generalize hp2 : 2 ^ n = p2 at *
        generalize nl vs = VV at *
        unfold ta3 tks at *
        refine AC.mk (n := 75) (fn := Tryd.f85) Tryd.func85 (by kernel_rfl) rfl rfl rfl rfl (fun cx => ?_); dsimp only [argv, Nat.reduceAdd]
        (repeat' (first | refine a_seq ?_ | refine a_skip ?_ | refine a_ret ?_ | refine a_region ?_ | refine l_nil ?_ | (apply w_q; (focus (first | exact Q_assign (by conv => lhs; whnf) | exact Q_fieldAddr_ptr rfl KFl.h | exact Q_load_ptr rfl rfl rfl KSc.h | exact Q_eql rfl rfl | exact Q_bit rfl rfl (by omega) | exact Q_sub rfl rfl (by omega))); (focus exact rfl)) | (refine a_cond rfl ?_ ?_ <;> (intro h; (try (have hp := of_decide_eq_true h)); (try (have hp := of_decide_eq_false h)); (try contradiction); (try (exfalso; omega)))) | refine w_box rfl rfl (by first|(dsimp only[obA,obB,obD,obE,obF,obG,obI,List.map,AO.sh,AV.sh,AV.shl,Nat.reduceAdd];done)|exact rfl) (by first|(dsimp only[obA,obB,obD,obE,obF,obG,obI,List.map,AO.sh,AV.sh,AV.shl,Nat.reduceAdd];done)|exact rfl) rfl ?_)); (try all_goals (try show retA _ _ _ _ _ _ _))
        all_goals first
          | (exfalso; omega)
          | (exfalso; simp_all; done)
          | (refine ⟨[_], [], ⟨resV_tmp (by conv => lhs; whnf), trivial⟩, VwOs.mk (by decide) trivial, ?_, rfl⟩; (repeat' (first | exact vwR rfl)); done)
          | (all_goals trace_state); fail
      · have he : frF n ns vs (d + 1) (.mk 2 (w : Int) []) = vs.getD w 0 := by
          show (if (2 : Int) = 2 then vs.getD (w : Int).toNat 0 else _) = _
          rw [if_pos rfl, Int.toNat_natCast]
        have hg := nl_get vs w
        rw [he]
        clear he
        generalize nl vs = VV at *
        generalize vs.getD w 0 = r at *
        unfold ta3 tks at *
        refine AC.mk (n := 75) (fn := Tryd.f85) Tryd.func85 (by kernel_rfl) rfl rfl rfl rfl (fun cx => ?_); dsimp only [argv, Nat.reduceAdd]
        (repeat' (first | refine a_seq ?_ | refine a_ret ?_ | refine a_region ?_ | refine l_nil ?_ | (apply w_q; (focus (first | exact Q_move (by conv => lhs; whnf) | exact Q_assign (by conv => lhs; whnf) | exact Q_fieldAddr_ptr rfl KFl.h | exact Q_load_ptr rfl rfl rfl KSc.h | exact Q_eql rfl rfl | exact Q_bit rfl rfl (by omega) | exact Q_sub rfl rfl (by omega) | exact Q_ix_ints rfl rfl rfl KSl.h (by omega) | exact Q_ld_ints rfl (by omega) KSc.h)); (focus exact rfl)) | (refine a_cond rfl ?_ ?_ <;> (intro h; (try (have hp := of_decide_eq_true h)); (try (have hp := of_decide_eq_false h)); (try contradiction); (try (exfalso; omega)))) | refine w_box rfl rfl (by first|(dsimp only[obA,obB,obD,obE,obF,obG,obI,List.map,AO.sh,AV.sh,AV.shl,Nat.reduceAdd];done)|exact rfl) (by first|(dsimp only[obA,obB,obD,obE,obF,obG,obI,List.map,AO.sh,AV.sh,AV.shl,Nat.reduceAdd];done)|exact rfl) rfl ?_)); (try all_goals (try show retA _ _ _ _ _ _ _))
        all_goals first
          | (exfalso; omega)
          | (exfalso; simp_all; done)
          | (rw [hg]; refine ⟨[_], [], ⟨resV_tmp (by conv => lhs; whnf), trivial⟩, VwOs.mk (by decide) trivial, ?_, rfl⟩; (repeat' (first | exact vwR rfl)); done)
          | (all_goals trace_state); fail
    · obtain rfl := hw0 (by omega)
      rw [kdep_two] at hd
      have d1 : (Tr.mk k1 v1 l1).dep = 1 + kdep l1 := by unfold Tr.dep; rfl
      have d2 : (Tr.mk k2 v2 l2).dep = 1 + kdep l2 := by unfold Tr.dep; rfl
      have p1 := forces_ac hvs d k1 v1 l1 (by omega) f1
      have p2 := forces_ac hvs d k2 v2 l2 (by omega) f2
      have g1 := frF_lt hn hv hvs d (.mk k1 v1 l1) (by omega) f1
      have g2 := frF_lt hn hv hvs d (.mk k2 v2 l2) (by omega) f2
      rcases hk with rfl | rfl | rfl
      · show AC _ _ _ [] (.val (.int .i64 ((frF n ns vs d (.mk k1 v1 l1) &&& frF n ns vs d (.mk k2 v2 l2) : Nat) : Int))) []
        generalize frF n ns vs d (.mk k1 v1 l1) = x at *
        generalize frF n ns vs d (.mk k2 v2 l2) = y at *
        generalize nl vs = VV at *
        clear hd d1 d2 hf hvs
        unfold ta3 tks at *
        refine AC.mk (n := 75) (fn := Tryd.f85) Tryd.func85 (by kernel_rfl) rfl rfl rfl rfl (fun cx => ?_); dsimp only [argv, Nat.reduceAdd]
        (repeat' (first | refine a_seq ?_ | refine a_region ?_ | refine l_nil ?_ | (apply w_q; (focus (first | exact Q_assign (by conv => lhs; whnf))); (focus exact rfl)) | refine w_box rfl rfl (by first|(dsimp only[obA,obB,obD,obE,obF,obG,obI,List.map,AO.sh,AV.sh,AV.shl,Nat.reduceAdd];done)|exact rfl) (by first|(dsimp only[obA,obB,obD,obE,obF,obG,obI,List.map,AO.sh,AV.sh,AV.shl,Nat.reduceAdd];done)|exact rfl) rfl ?_)); (try all_goals (try show retA _ _ _ _ _ _ _))
        refine w_freezeB 0 [.val (.int .i64 n), .sl 1 (intc (nl ns))] rfl rfl (by simp only [fbv_nil, fbv_cons, fbl_nil, fbl_cons, fbo_nil, fbo_cons, fbo_box, fbo_row, fbo_gone, fb_own, fb_val, fb_ro, fb_rpt, fb_ptr, fb_ept, fb_agg, fb_tup, fb_clo, fb_ints, fb_rows, fb_pairs, fb_ords, Nat.reduceEqDiff, ↓reduceIte, List.set_cons_zero, List.set_cons_succ]; exact rfl) (by simp only [fbv_nil, fbv_cons, fbl_nil, fbl_cons, fbo_nil, fbo_cons, fbo_box, fbo_row, fbo_gone, fb_own, fb_val, fb_ro, fb_rpt, fb_ptr, fb_ept, fb_agg, fb_tup, fb_clo, fb_ints, fb_rows, fb_pairs, fb_ords, Nat.reduceEqDiff, ↓reduceIte, List.set_cons_zero, List.set_cons_succ]; exact rfl) ?_
        refine w_freezeB 1 [.val (.int .i64 3), .val (.int .i64 ((0 : Nat) : Int)), .sl 3 (kdc [.mk k1 v1 l1, .mk k2 v2 l2])] rfl rfl (by simp only [fbv_nil, fbv_cons, fbl_nil, fbl_cons, fbo_nil, fbo_cons, fbo_box, fbo_row, fbo_gone, fb_own, fb_val, fb_ro, fb_rpt, fb_ptr, fb_ept, fb_agg, fb_tup, fb_clo, fb_ints, fb_rows, fb_pairs, fb_ords, Nat.reduceEqDiff, ↓reduceIte, List.set_cons_zero, List.set_cons_succ]; exact rfl) (by simp only [fbv_nil, fbv_cons, fbl_nil, fbl_cons, fbo_nil, fbo_cons, fbo_box, fbo_row, fbo_gone, fb_own, fb_val, fb_ro, fb_rpt, fb_ptr, fb_ept, fb_agg, fb_tup, fb_clo, fb_ints, fb_rows, fb_pairs, fb_ords, Nat.reduceEqDiff, ↓reduceIte, List.set_cons_zero, List.set_cons_succ]; exact rfl) ?_
        (repeat' (first | refine a_seq ?_ | refine a_block ?_ | refine a_skip ?_ | refine a_ret ?_ | refine a_region ?_ | refine l_nil ?_ | refine q_nil ?_ | ((first | apply w_q | apply w_qq); (focus (first | exact Q_move (by conv => lhs; whnf) | exact Q_assign (by conv => lhs; whnf) | exact Q_fieldAddr_rpt rfl KFl.h | exact Q_eql rfl rfl | exact Q_bit rfl rfl (by omega) | exact Q_sub rfl rfl (by omega) | exact Q_ld_rpa rfl KAg.h rfl rfl (by first | (dsimp only [List.drop_zero, List.drop_succ_cons, List.take_succ_cons, List.take_zero, List.map, ofD]; done) | exact rfl) | exact Q_ld_rv rfl rfl KSc.h | exact Q_ld_rs rfl rfl KSc.h)); (focus exact rfl)) | (refine a_cond rfl ?_ ?_ <;> (intro h; (try (have hp := of_decide_eq_true h)); (try (have hp := of_decide_eq_false h)); (try contradiction); (try (exfalso; omega)))) | refine a_draw (by kernel_rfl) (by kernel_rfl) ?_ | (((first | apply w_q | apply w_qq); (focus exact Q_ix_kid (o := 0) rfl rfl rfl KSl.h (Nat.succ_pos 1)); (focus exact rfl))) | (((first | apply w_q | apply w_qq); (focus exact Q_ix_kid (o := 1) rfl rfl rfl KSl.h (Nat.lt_succ_self 1)); (focus exact rfl))) | (((first | apply w_q | apply w_qq); (focus (refine Q_call (.inl ⟨rfl, rfl⟩) (p1) ?_; ((repeat' (first | exact trivial | exact vwR rfl | exact vwRL rfl | exact Vw.ro _ | refine Vw.agg' ?_ | refine ⟨?_, ?_⟩ )); done))); (focus exact rfl))) | (((first | apply w_q | apply w_qq); (focus (refine Q_call (.inl ⟨rfl, rfl⟩) (p2) ?_; ((repeat' (first | exact trivial | exact vwR rfl | exact vwRL rfl | exact Vw.ro _ | refine Vw.agg' ?_ | refine ⟨?_, ?_⟩ )); done))); (focus exact rfl))) | (((first | apply w_q); (focus exact Q_andN rfl rfl (by omega) (by omega)); (focus exact rfl))))); (try all_goals (try show retA _ _ _ _ _ _ _))
        all_goals first
          | (exfalso; omega)
          | (exfalso; simp_all; done)
          | (refine ⟨[_], [], ⟨resV_tmp (by conv => lhs; whnf), trivial⟩, VwOs.mk (by decide) trivial, ?_, rfl⟩; (repeat' (first | exact vwR rfl)); done)
          | (all_goals trace_state); fail
      · show AC _ _ _ [] (.val (.int .i64 ((frF n ns vs d (.mk k1 v1 l1) ||| frF n ns vs d (.mk k2 v2 l2) : Nat) : Int))) []
        generalize frF n ns vs d (.mk k1 v1 l1) = x at *
        generalize frF n ns vs d (.mk k2 v2 l2) = y at *
        generalize nl vs = VV at *
        clear hd d1 d2 hf hvs
        unfold ta3 tks at *
        refine AC.mk (n := 75) (fn := Tryd.f85) Tryd.func85 (by kernel_rfl) rfl rfl rfl rfl (fun cx => ?_); dsimp only [argv, Nat.reduceAdd]
        (repeat' (first | refine a_seq ?_ | refine a_region ?_ | refine l_nil ?_ | (apply w_q; (focus (first | exact Q_assign (by conv => lhs; whnf))); (focus exact rfl)) | refine w_box rfl rfl (by first|(dsimp only[obA,obB,obD,obE,obF,obG,obI,List.map,AO.sh,AV.sh,AV.shl,Nat.reduceAdd];done)|exact rfl) (by first|(dsimp only[obA,obB,obD,obE,obF,obG,obI,List.map,AO.sh,AV.sh,AV.shl,Nat.reduceAdd];done)|exact rfl) rfl ?_)); (try all_goals (try show retA _ _ _ _ _ _ _))
        refine w_freezeB 0 [.val (.int .i64 n), .sl 1 (intc (nl ns))] rfl rfl (by simp only [fbv_nil, fbv_cons, fbl_nil, fbl_cons, fbo_nil, fbo_cons, fbo_box, fbo_row, fbo_gone, fb_own, fb_val, fb_ro, fb_rpt, fb_ptr, fb_ept, fb_agg, fb_tup, fb_clo, fb_ints, fb_rows, fb_pairs, fb_ords, Nat.reduceEqDiff, ↓reduceIte, List.set_cons_zero, List.set_cons_succ]; exact rfl) (by simp only [fbv_nil, fbv_cons, fbl_nil, fbl_cons, fbo_nil, fbo_cons, fbo_box, fbo_row, fbo_gone, fb_own, fb_val, fb_ro, fb_rpt, fb_ptr, fb_ept, fb_agg, fb_tup, fb_clo, fb_ints, fb_rows, fb_pairs, fb_ords, Nat.reduceEqDiff, ↓reduceIte, List.set_cons_zero, List.set_cons_succ]; exact rfl) ?_
        refine w_freezeB 1 [.val (.int .i64 4), .val (.int .i64 ((0 : Nat) : Int)), .sl 3 (kdc [.mk k1 v1 l1, .mk k2 v2 l2])] rfl rfl (by simp only [fbv_nil, fbv_cons, fbl_nil, fbl_cons, fbo_nil, fbo_cons, fbo_box, fbo_row, fbo_gone, fb_own, fb_val, fb_ro, fb_rpt, fb_ptr, fb_ept, fb_agg, fb_tup, fb_clo, fb_ints, fb_rows, fb_pairs, fb_ords, Nat.reduceEqDiff, ↓reduceIte, List.set_cons_zero, List.set_cons_succ]; exact rfl) (by simp only [fbv_nil, fbv_cons, fbl_nil, fbl_cons, fbo_nil, fbo_cons, fbo_box, fbo_row, fbo_gone, fb_own, fb_val, fb_ro, fb_rpt, fb_ptr, fb_ept, fb_agg, fb_tup, fb_clo, fb_ints, fb_rows, fb_pairs, fb_ords, Nat.reduceEqDiff, ↓reduceIte, List.set_cons_zero, List.set_cons_succ]; exact rfl) ?_
        (repeat' (first | refine a_seq ?_ | refine a_block ?_ | refine a_skip ?_ | refine a_ret ?_ | refine a_region ?_ | refine l_nil ?_ | refine q_nil ?_ | ((first | apply w_q | apply w_qq); (focus (first | exact Q_move (by conv => lhs; whnf) | exact Q_assign (by conv => lhs; whnf) | exact Q_fieldAddr_rpt rfl KFl.h | exact Q_eql rfl rfl | exact Q_bit rfl rfl (by omega) | exact Q_sub rfl rfl (by omega) | exact Q_ld_rpa rfl KAg.h rfl rfl (by first | (dsimp only [List.drop_zero, List.drop_succ_cons, List.take_succ_cons, List.take_zero, List.map, ofD]; done) | exact rfl) | exact Q_ld_rv rfl rfl KSc.h | exact Q_ld_rs rfl rfl KSc.h)); (focus exact rfl)) | (refine a_cond rfl ?_ ?_ <;> (intro h; (try (have hp := of_decide_eq_true h)); (try (have hp := of_decide_eq_false h)); (try contradiction); (try (exfalso; omega)))) | refine a_draw (by kernel_rfl) (by kernel_rfl) ?_ | (((first | apply w_q | apply w_qq); (focus exact Q_ix_kid (o := 0) rfl rfl rfl KSl.h (Nat.succ_pos 1)); (focus exact rfl))) | (((first | apply w_q | apply w_qq); (focus exact Q_ix_kid (o := 1) rfl rfl rfl KSl.h (Nat.lt_succ_self 1)); (focus exact rfl))) | (((first | apply w_q | apply w_qq); (focus (refine Q_call (.inl ⟨rfl, rfl⟩) (p1) ?_; ((repeat' (first | exact trivial | exact vwR rfl | exact vwRL rfl | exact Vw.ro _ | refine Vw.agg' ?_ | refine ⟨?_, ?_⟩ )); done))); (focus exact rfl))) | (((first | apply w_q | apply w_qq); (focus (refine Q_call (.inl ⟨rfl, rfl⟩) (p2) ?_; ((repeat' (first | exact trivial | exact vwR rfl | exact vwRL rfl | exact Vw.ro _ | refine Vw.agg' ?_ | refine ⟨?_, ?_⟩ )); done))); (focus exact rfl))) | (((first | apply w_q); (focus exact Q_orN rfl rfl (by omega) (by omega)); (focus exact rfl))))); (try all_goals (try show retA _ _ _ _ _ _ _))
        all_goals first
          | (exfalso; omega)
          | (exfalso; simp_all; done)
          | (refine ⟨[_], [], ⟨resV_tmp (by conv => lhs; whnf), trivial⟩, VwOs.mk (by decide) trivial, ?_, rfl⟩; (repeat' (first | exact vwR rfl)); done)
          | (all_goals trace_state); fail
      · show AC _ _ _ [] (.val (.int .i64 ((ndiff (2 ^ n - 1) (pvB ns (ndiff (frF n ns vs d (.mk k1 v1 l1)) (frF n ns vs d (.mk k2 v2 l2))) (mbs (ndiff (frF n ns vs d (.mk k1 v1 l1)) (frF n ns vs d (.mk k2 v2 l2)))).length) : Nat) : Int))) []
        have hb : ndiff (frF n ns vs d (.mk k1 v1 l1)) (frF n ns vs d (.mk k2 v2 l2)) < 2 ^ n := ndiff_lt g1
        have kM := Members_ac (ndiff (frF n ns vs d (.mk k1 v1 l1)) (frF n ns vs d (.mk k2 v2 l2))) (by omega)
        have hpv := pvB_lt hn hv hb
        have hbl := bel_lt hn hv
        have hmb := mbs_len (ndiff (frF n ns vs d (.mk k1 v1 l1)) (frF n ns vs d (.mk k2 v2 l2)))
        have hmi : ∀ i, i < (mbs (ndiff (frF n ns vs d (.mk k1 v1 l1)) (frF n ns vs d (.mk k2 v2 l2)))).length → (mbs (ndiff (frF n ns vs d (.mk k1 v1 l1)) (frF n ns vs d (.mk k2 v2 l2)))).getD i 0 < n := fun i hi => by
          have h1 : (mbs (ndiff (frF n ns vs d (.mk k1 v1 l1)) (frF n ns vs d (.mk k2 v2 l2)))).getD i 0 ∈ mbs (ndiff (frF n ns vs d (.mk k1 v1 l1)) (frF n ns vs d (.mk k2 v2 l2))) := by rw [List.getD_eq_getElem?_getD, List.getElem?_eq_getElem hi]; exact List.getElem_mem hi
          have h2 := (mbs_mem (by omega)).1 h1
          apply Classical.byContradiction
          intro hc
          rw [Nat.testBit_lt_two_pow (Nat.lt_of_lt_of_le hb (Nat.pow_le_pow_right (by decide) (by omega)))] at h2
          cases h2
        generalize frF n ns vs d (.mk k1 v1 l1) = x at *
        generalize frF n ns vs d (.mk k2 v2 l2) = y at *
        generalize hbd : ndiff x y = bd at *
        have hsu : ∀ i, pvB ns bd (i + 1) = pvB ns bd i ||| ns.getD ((mbs bd).getD i 0) 0 := fun _ => rfl
        have hz0 : pvB ns bd 0 = bd := rfl
        generalize pvB ns bd = pv at *
        generalize mbs bd = B at *
        generalize nl vs = VV at *
        clear hd d1 d2 hf hvs
        unfold ta3 tks at *
        refine AC.mk (n := 75) (fn := Tryd.f85) Tryd.func85 (by kernel_rfl) rfl rfl rfl rfl (fun cx => ?_); dsimp only [argv, Nat.reduceAdd]
        (repeat' (first | refine a_seq ?_ | refine a_region ?_ | refine l_nil ?_ | (apply w_q; (focus (first | exact Q_assign (by conv => lhs; whnf))); (focus exact rfl)) | refine w_box rfl rfl (by first|(dsimp only[obA,obB,obD,obE,obF,obG,obI,List.map,AO.sh,AV.sh,AV.shl,Nat.reduceAdd];done)|exact rfl) (by first|(dsimp only[obA,obB,obD,obE,obF,obG,obI,List.map,AO.sh,AV.sh,AV.shl,Nat.reduceAdd];done)|exact rfl) rfl ?_)); (try all_goals (try show retA _ _ _ _ _ _ _))
        refine w_freezeB 0 [.val (.int .i64 n), .sl 1 (intc (nl ns))] rfl rfl (by simp only [fbv_nil, fbv_cons, fbl_nil, fbl_cons, fbo_nil, fbo_cons, fbo_box, fbo_row, fbo_gone, fb_own, fb_val, fb_ro, fb_rpt, fb_ptr, fb_ept, fb_agg, fb_tup, fb_clo, fb_ints, fb_rows, fb_pairs, fb_ords, Nat.reduceEqDiff, ↓reduceIte, List.set_cons_zero, List.set_cons_succ]; exact rfl) (by simp only [fbv_nil, fbv_cons, fbl_nil, fbl_cons, fbo_nil, fbo_cons, fbo_box, fbo_row, fbo_gone, fb_own, fb_val, fb_ro, fb_rpt, fb_ptr, fb_ept, fb_agg, fb_tup, fb_clo, fb_ints, fb_rows, fb_pairs, fb_ords, Nat.reduceEqDiff, ↓reduceIte, List.set_cons_zero, List.set_cons_succ]; exact rfl) ?_
        refine w_freezeB 1 [.val (.int .i64 5), .val (.int .i64 ((0 : Nat) : Int)), .sl 3 (kdc [.mk k1 v1 l1, .mk k2 v2 l2])] rfl rfl (by simp only [fbv_nil, fbv_cons, fbl_nil, fbl_cons, fbo_nil, fbo_cons, fbo_box, fbo_row, fbo_gone, fb_own, fb_val, fb_ro, fb_rpt, fb_ptr, fb_ept, fb_agg, fb_tup, fb_clo, fb_ints, fb_rows, fb_pairs, fb_ords, Nat.reduceEqDiff, ↓reduceIte, List.set_cons_zero, List.set_cons_succ]; exact rfl) (by simp only [fbv_nil, fbv_cons, fbl_nil, fbl_cons, fbo_nil, fbo_cons, fbo_box, fbo_row, fbo_gone, fb_own, fb_val, fb_ro, fb_rpt, fb_ptr, fb_ept, fb_agg, fb_tup, fb_clo, fb_ints, fb_rows, fb_pairs, fb_ords, Nat.reduceEqDiff, ↓reduceIte, List.set_cons_zero, List.set_cons_succ]; exact rfl) ?_
        (repeat' (first | refine a_seq ?_ | refine a_block ?_ | refine a_skip ?_ | refine a_region ?_ | refine l_nil ?_ | refine q_nil ?_ | ((first | apply w_q | apply w_qq); (focus (first | exact Q_move (by conv => lhs; whnf) | exact Q_assign (by conv => lhs; whnf) | exact Q_fieldAddr_rpt rfl KFl.h | exact Q_eql rfl rfl | exact Q_bit rfl rfl (by omega) | exact Q_sub rfl rfl (by omega) | exact Q_ld_rpa rfl KAg.h rfl rfl (by first | (dsimp only [List.drop_zero, List.drop_succ_cons, List.take_succ_cons, List.take_zero, List.map, ofD]; done) | exact rfl) | exact Q_ld_rv rfl rfl KSc.h | exact Q_ld_rs rfl rfl KSc.h)); (focus exact rfl)) | (refine a_cond rfl ?_ ?_ <;> (intro h; (try (have hp := of_decide_eq_true h)); (try (have hp := of_decide_eq_false h)); (try contradiction); (try (exfalso; omega)))) | refine a_draw (by kernel_rfl) (by kernel_rfl) ?_ | (((first | apply w_q | apply w_qq); (focus exact Q_ix_kid (o := 0) rfl rfl rfl KSl.h (Nat.succ_pos 1)); (focus exact rfl))) | (((first | apply w_q | apply w_qq); (focus exact Q_ix_kid (o := 1) rfl rfl rfl KSl.h (Nat.lt_succ_self 1)); (focus exact rfl))) | (((first | apply w_q | apply w_qq); (focus (refine Q_call (.inl ⟨rfl, rfl⟩) (p1) ?_; ((repeat' (first | exact trivial | exact vwR rfl | exact vwRL rfl | exact Vw.ro _ | refine Vw.agg' ?_ | refine ⟨?_, ?_⟩ )); done))); (focus exact rfl))) | (((first | apply w_q | apply w_qq); (focus (refine Q_call (.inl ⟨rfl, rfl⟩) (p2) ?_; ((repeat' (first | exact trivial | exact vwR rfl | exact vwRL rfl | exact Vw.ro _ | refine Vw.agg' ?_ | refine ⟨?_, ?_⟩ )); done))); (focus exact rfl))) | (((first | apply w_q); (focus exact Q_andNotN rfl rfl (by omega) (by omega)); (focus exact rfl))))); (try all_goals (try show retA _ _ _ _ _ _ _))
        all_goals first
          | (exfalso; omega)
          | (exfalso; simp_all; done)
          | skip
        rw [hbd, hal]
        clear p1 p2
        (repeat' (first | refine a_block ?_ | refine l_nil ?_ | (apply w_q; (focus (first | exact Q_move (by conv => lhs; whnf) | exact Q_len_nats rfl KSl.h)); (focus exact rfl)) | ((refine w_callV (.inl ⟨rfl, rfl⟩) (kM) ?_ (by first | (dsimp only [AV.sh, AV.shl, sh_ints, sh_rows, sh_pairs, sh_ords]; done) | exact rfl) rfl ?_; rotate_left 0; (focus ((repeat' (first | exact trivial | exact Vs.val _ | refine ⟨?_, ?_⟩)); done)); rotate_left 1; all_goals (try (skip)))))); (try all_goals (try show retA _ _ _ _ _ _ _))
        clear kM
        generalize 2 ^ n - 1 = al at *
        have hal2 : al ≤ 1024 := by omega
        refine w_loop (X := Nat) [3, 7, 58, 59] (by simp only [keepv, getv_cons, Nat.reduceEqDiff, ↓reduceIte]; exact rfl) (fun i => [(10, .val (.int .i64 (pv i : Nat))), (60, .val (.int .i64 (i : Nat)))]) (fun _ => [.gone, .gone]) (fun i => i ≤ B.length) (fun i => B.length - i) (0) ([0, 1]) ?_ ?_ rfl ?_ <;> (try dsimp only [List.cons_append, List.nil_append])
        · exact Nat.zero_le _
        · rw [hz0]; (refine St.le_mk rfl (VwOs.mk (by decide) ?_) ?_ <;> (repeat' (first | exact trivial | exact vwR rfl | exact Vw.ro _ | exact VwO.gone _ | refine ⟨⟨_, rfl, ?_⟩, ?_⟩ | refine ⟨?_, ?_⟩ )))
        rintro i hi
        have hpi := hpv i
        by_cases hil : i < B.length
        · have h1 := hmi i hil
          have h2 := hbl (B.getD i 0)
          have h3 := hsu i
          have hnl2 : ns.length = n := hv.1
          (repeat' (first | refine a_seq ?_ | refine a_block ?_ | refine a_skip ?_ | refine a_region ?_ | refine l_nil ?_ | (apply w_q; (focus (first | exact Q_move (by conv => lhs; whnf) | exact Q_assign (by conv => lhs; whnf) | exact Q_fieldAddr_rpt rfl KFl.h | exact Q_lss rfl rfl | exact Q_add rfl rfl (by omega) | exact Q_ix_nats rfl rfl rfl KSl.h (by omega) | exact Q_ld_rs rfl rfl KSc.h | exact Q_ld_nats rfl (by omega) KSc.h)); (focus exact rfl)) | (refine a_cond rfl ?_ ?_ <;> (intro h; (try (have hp := of_decide_eq_true h)); (try (have hp := of_decide_eq_false h)); (try contradiction); (try (exfalso; omega)))) | (((first | apply w_q); (focus exact Q_orN rfl rfl (by omega) (by omega)); (focus exact rfl))))); (try all_goals (try show retA _ _ _ _ _ _ _))
          all_goals first
            | (exfalso; omega)
            | (try dsimp only [thenA, blockA]
               refine ⟨i + 1, [0, 1], ?_, ?_, ?_, rfl⟩ <;> (try dsimp only)
               · omega
               · omega
               · rw [h3]; (refine St.le_mk rfl (VwOs.mk (by decide) ?_) ?_ <;> (repeat' (first | exact trivial | exact vwR rfl | exact Vw.ro _ | exact VwO.gone _ | refine ⟨⟨_, rfl, ?_⟩, ?_⟩ | refine ⟨?_, ?_⟩ ))))
            | (all_goals trace_state); fail
        · obtain rfl : i = B.length := by omega
          (repeat' (first | refine a_seq ?_ | refine a_ret ?_ | refine a_exit ?_ | refine a_region ?_ | refine l_nil ?_ | (apply w_q; (focus (first | exact Q_move (by conv => lhs; whnf) | exact Q_assign (by conv => lhs; whnf) | exact Q_lss rfl rfl)); (focus exact rfl)) | (refine a_cond rfl ?_ ?_ <;> (intro h; (try (have hp := of_decide_eq_true h)); (try (have hp := of_decide_eq_false h)); (try contradiction); (try (exfalso; omega)))) | (((first | apply w_q); (focus exact Q_andNotN rfl rfl (by omega) (by omega)); (focus exact rfl))))); (try all_goals (try show retA _ _ _ _ _ _ _))
          all_goals first
            | (exfalso; omega)
            | (refine ⟨[_], [], ⟨resV_tmp (by conv => lhs; whnf), trivial⟩, VwOs.mk (by decide) trivial, ?_, rfl⟩; (repeat' (first | exact vwR rfl)); done)
            | (all_goals trace_state); fail
end
end Go.Proofs.YtbgecpjlopdkfaaDoor
