import Derived.Test.YtbgecpjlopdkfaaDoorSrp
import Derived.Test.YtbgecpjlopdkfaaDoorFd
set_option linter.unusedSimpArgs false
set_option linter.unusedVariables false
set_option linter.unusedSectionVars false
set_option maxRecDepth 20000
namespace Go.Proofs.YtbgecpjlopdkfaaDoor
attribute [local irreducible] QOp aL aC qL
def apZ (ns : List Nat) (x y : Nat) : Bool := decide (x ≠ y) && (!lt ns x y && !lt ns y x)
def zqQ (ns : List Nat) (a b c d : Nat) : Bool := lt ns a c && lt ns b c && lt ns b d && apZ ns a b && apZ ns a d && apZ ns c d
theorem ApartZ_ac (n : Nat) (ns : List Nat) (hn : n ≤ 10) (hv : Vld n ns) (a b : Nat) (ha : a < n) (hb : b < n) : AC Tryd.prog 58 [ordv n (nl ns), .val (.int .i64 a), .val (.int .i64 b)] [] (.val (.bool (apZ ns a b))) [] := by
  have hpn := p2_10 hn
  have hl := hv.1
  have hle : ∀ x ∈ ns, x ≤ 9223372036854775807 := fun x hx => by have := hv.2 x hx; omega
  have k1 := Less_ac n ns a b (by omega) (by omega) hle
  have k2 := Less_ac n ns b a (by omega) (by omega) hle
  unfold apZ
  change AC _ _ _ _ (.val (.bool (lt ns a b))) _ at k1
  change AC _ _ _ _ (.val (.bool (lt ns b a))) _ at k2
  generalize lt ns a b = v1 at *
  generalize lt ns b a = v2 at *
  refine AC.mk (n := 24) (fn := Tryd.f58) Tryd.func58 (by kernel_rfl) rfl rfl rfl rfl (fun cx => ?_); dsimp only [argv, Nat.reduceAdd]
  by_cases hab : a = b
  · subst hab
    rw [decide_eq_false (by simp), Bool.false_and]
    (repeat' (first | refine a_seq ?_ | refine a_ret ?_ | refine a_region ?_ | refine l_nil ?_ | (apply w_q; (focus (first | exact Q_move (by conv => lhs; whnf) | exact Q_assign (by conv => lhs; whnf) | exact Q_neq rfl rfl | exact Q_pick_f rfl (by assumption) (by conv => lhs; whnf) | exact Q_pick_f rfl rfl (by conv => lhs; whnf))); (focus exact rfl)) | refine w_guard_n rfl rfl rfl (by first | assumption | rfl) ?_ | (refine w_guard rfl rfl rfl ?_ ?_ <;> (intro h; (try (have hp := of_decide_eq_true h)); (try (have hp := of_decide_eq_false h)); (try contradiction); (try (exfalso; omega)))) | refine w_box rfl rfl (by first|(dsimp only[obA,obB,obD,obE,obF,obG,obI,List.map,AO.sh,AV.sh,AV.shl,Nat.reduceAdd];done)|exact rfl) (by first|(dsimp only[obA,obB,obD,obE,obF,obG,obI,List.map,AO.sh,AV.sh,AV.shl,Nat.reduceAdd];done)|exact rfl) rfl ?_)); (try all_goals (try show retA _ _ _ _ _ _ _))
    all_goals first
      | (exfalso; omega)
      | (refine ⟨[_], [], ⟨resV_tmp (by conv => lhs; whnf), trivial⟩, VwOs.mk (by decide) trivial, ?_, rfl⟩; (repeat' (first | exact vwR rfl)); done)
      | (all_goals trace_state); fail
  · rw [decide_eq_true hab, Bool.true_and]
    cases v1 <;> cases v2
    all_goals
      (repeat' (first | refine a_seq ?_ | refine a_ret ?_ | refine a_region ?_ | refine l_nil ?_ | (apply w_q; (focus (first | exact Q_move (by conv => lhs; whnf) | exact Q_assign (by conv => lhs; whnf) | exact Q_load_all rfl rfl KAg.h | exact Q_neq rfl rfl | exact Q_not rfl | exact Q_pick_t rfl (by assumption) (by conv => lhs; whnf) | exact Q_pick_t rfl rfl (by conv => lhs; whnf) | exact Q_pick_f rfl rfl (by conv => lhs; whnf))); (focus exact rfl)) | refine w_guard_y rfl rfl rfl (by first | assumption | rfl) ?_ | refine w_guard_n rfl rfl rfl (by first | assumption | rfl) ?_ | (refine w_guard rfl rfl rfl ?_ ?_ <;> (intro h; (try (have hp := of_decide_eq_true h)); (try (have hp := of_decide_eq_false h)); (try contradiction); (try (exfalso; omega)))) | refine w_box rfl rfl (by first|(dsimp only[obA,obB,obD,obE,obF,obG,obI,List.map,AO.sh,AV.sh,AV.shl,Nat.reduceAdd];done)|exact rfl) (by first|(dsimp only[obA,obB,obD,obE,obF,obG,obI,List.map,AO.sh,AV.sh,AV.shl,Nat.reduceAdd];done)|exact rfl) rfl ?_ | (((first | apply w_q); (focus (refine Q_call (.inl ⟨rfl, rfl⟩) (k1) ?_; ((repeat' (first | exact trivial | exact vwR rfl | exact vwRL rfl | exact Vw.ro _ | refine Vw.agg' ?_ | refine ⟨?_, ?_⟩ )); done))); (focus exact rfl))) | (((first | apply w_q); (focus (refine Q_call (.inl ⟨rfl, rfl⟩) (k2) ?_; ((repeat' (first | exact trivial | exact vwR rfl | exact vwRL rfl | exact Vw.ro _ | refine Vw.agg' ?_ | refine ⟨?_, ?_⟩ )); done))); (focus exact rfl))))); (try all_goals (try show retA _ _ _ _ _ _ _))
      all_goals first
        | (exfalso; omega)
        | (refine ⟨[_], [], ⟨resV_tmp (by conv => lhs; whnf), trivial⟩, VwOs.mk (by decide) trivial, ?_, rfl⟩; (repeat' (first | exact vwR rfl)); done)
        | (all_goals trace_state); fail
set_option maxRecDepth 20000 in
set_option maxHeartbeats 4000000 in
theorem ZigC1_ac (n : Nat) (ns : List Nat) (hn : n ≤ 10) (hv : Vld n ns) (a b c d : Nat) (ha : a < n) (hb : b < n) (hc : c < n) (hd : d < n) : AC Tryd.prog 57 [ints (nl [a, b, c, d]), .rpt [.val (.int .i64 n), .sl 1 (intc (nl ns))] 0] [] (.val (.bool (zqQ ns a b c d))) [] := by
  have hpn := p2_10 hn
  have hl := hv.1
  have hle : ∀ x ∈ ns, x ≤ 9223372036854775807 := fun x hx => by have := hv.2 x hx; omega
  have k1 := Less_ac n ns a c (by omega) (by omega) hle
  have k2 := Less_ac n ns b c (by omega) (by omega) hle
  have k3 := Less_ac n ns b d (by omega) (by omega) hle
  have k4 := ApartZ_ac n ns hn hv a b (by omega) (by omega)
  have k5 := ApartZ_ac n ns hn hv a d (by omega) (by omega)
  have k6 := ApartZ_ac n ns hn hv c d (by omega) (by omega)
  unfold zqQ
  change AC _ _ _ _ (.val (.bool (lt ns a c))) _ at k1
  change AC _ _ _ _ (.val (.bool (lt ns b c))) _ at k2
  change AC _ _ _ _ (.val (.bool (lt ns b d))) _ at k3
  generalize lt ns a c = v1 at *
  generalize lt ns b c = v2 at *
  generalize lt ns b d = v3 at *
  generalize apZ ns a b = v4 at *
  generalize apZ ns a d = v5 at *
  generalize apZ ns c d = v6 at *
  clear hle
  cases v1 with
  | false =>
    refine AC.mk (n := 62) (fn := Tryd.f57) Tryd.func57 (by kernel_rfl) rfl rfl rfl rfl (fun cx => ?_); dsimp only [argv, Nat.reduceAdd]
    simp only [Bool.false_and, Bool.true_and, Bool.and_false, Bool.and_true, Bool.not_true, Bool.not_false]
    (repeat' (first | refine a_seq ?_ | refine a_ret ?_ | refine a_region ?_ | refine l_nil ?_ | refine q_nil ?_ | ((first | apply w_q | apply w_qq); (focus (first | exact Q_move (by conv => lhs; whnf) | exact Q_assign (by conv => lhs; whnf) | exact Q_ld_rpa rfl KAg.h rfl rfl (by first | (dsimp only [List.drop_zero, List.drop_succ_cons, List.take_succ_cons, List.take_zero, List.map, ofD]; done) | exact rfl) | exact Q_ld_rv rfl rfl KSc.h | exact Q_pick_f rfl rfl (by conv => lhs; whnf))); (focus exact rfl)) | refine w_qguard_n rfl rfl rfl (by first | assumption | rfl) ?_ | refine a_draw (by kernel_rfl) (by kernel_rfl) ?_ | (((first | apply w_qq); (focus (refine Q_call (.inl ⟨rfl, rfl⟩) (k1) ?_; ((repeat' (first | exact trivial | exact vwR rfl | exact vwRL rfl | exact Vw.ro _ | refine Vw.agg' ?_ | refine ⟨?_, ?_⟩ )); done))); (focus exact rfl))) | (((first | apply w_qq); (focus exact Q_ix_ints (l := [(a : Int), (b : Int), (c : Int), (d : Int)]) (o := 0) rfl rfl rfl KSl.h (by simp)); (focus exact rfl))) | (((first | apply w_qq); (focus exact Q_ix_ints (l := [(a : Int), (b : Int), (c : Int), (d : Int)]) (o := 2) rfl rfl rfl KSl.h (by simp)); (focus exact rfl))))); (try all_goals (try show retA _ _ _ _ _ _ _))
    all_goals first
      | (exfalso; omega)
      | (refine ⟨[_], [], ⟨resV_tmp (by conv => lhs; whnf), trivial⟩, VwOs.mk (by decide) trivial, ?_, rfl⟩; (repeat' (first | exact vwR rfl)); done)
      | (refine ⟨[_], [], ⟨resV_tmp (by conv => lhs; whnf), trivial⟩, VwOs.mk (by decide) trivial, ?_, rfl⟩; exact Vw.bool' (by simp))
      | (all_goals trace_state); fail
  | true =>
    cases v2 with
    | false =>
      refine AC.mk (n := 62) (fn := Tryd.f57) Tryd.func57 (by kernel_rfl) rfl rfl rfl rfl (fun cx => ?_); dsimp only [argv, Nat.reduceAdd]
      simp only [Bool.false_and, Bool.true_and, Bool.and_false, Bool.and_true, Bool.not_true, Bool.not_false]
      (repeat' (first | refine a_seq ?_ | refine a_ret ?_ | refine a_region ?_ | refine l_nil ?_ | refine q_nil ?_ | ((first | apply w_q | apply w_qq); (focus (first | exact Q_move (by conv => lhs; whnf) | exact Q_assign (by conv => lhs; whnf) | exact Q_ld_rpa rfl KAg.h rfl rfl (by first | (dsimp only [List.drop_zero, List.drop_succ_cons, List.take_succ_cons, List.take_zero, List.map, ofD]; done) | exact rfl) | exact Q_ld_rv rfl rfl KSc.h | exact Q_pick_t rfl rfl (by conv => lhs; whnf) | exact Q_pick_f rfl rfl (by conv => lhs; whnf))); (focus exact rfl)) | refine w_qguard_y rfl rfl rfl (by first | assumption | rfl) ?_ | refine w_qguard_n rfl rfl rfl (by first | assumption | rfl) ?_ | refine a_draw (by kernel_rfl) (by kernel_rfl) ?_ | (((first | apply w_qq); (focus (refine Q_call (.inl ⟨rfl, rfl⟩) (k1) ?_; ((repeat' (first | exact trivial | exact vwR rfl | exact vwRL rfl | exact Vw.ro _ | refine Vw.agg' ?_ | refine ⟨?_, ?_⟩ )); done))); (focus exact rfl))) | (((first | apply w_qq); (focus (refine Q_call (.inl ⟨rfl, rfl⟩) (k2) ?_; ((repeat' (first | exact trivial | exact vwR rfl | exact vwRL rfl | exact Vw.ro _ | refine Vw.agg' ?_ | refine ⟨?_, ?_⟩ )); done))); (focus exact rfl))) | (((first | apply w_qq); (focus exact Q_ix_ints (l := [(a : Int), (b : Int), (c : Int), (d : Int)]) (o := 0) rfl rfl rfl KSl.h (by simp)); (focus exact rfl))) | (((first | apply w_qq); (focus exact Q_ix_ints (l := [(a : Int), (b : Int), (c : Int), (d : Int)]) (o := 1) rfl rfl rfl KSl.h (by simp)); (focus exact rfl))) | (((first | apply w_qq); (focus exact Q_ix_ints (l := [(a : Int), (b : Int), (c : Int), (d : Int)]) (o := 2) rfl rfl rfl KSl.h (by simp)); (focus exact rfl))))); (try all_goals (try show retA _ _ _ _ _ _ _))
      all_goals first
        | (exfalso; omega)
        | (refine ⟨[_], [], ⟨resV_tmp (by conv => lhs; whnf), trivial⟩, VwOs.mk (by decide) trivial, ?_, rfl⟩; (repeat' (first | exact vwR rfl)); done)
        | (refine ⟨[_], [], ⟨resV_tmp (by conv => lhs; whnf), trivial⟩, VwOs.mk (by decide) trivial, ?_, rfl⟩; exact Vw.bool' (by simp))
        | (all_goals trace_state); fail
    | true =>
      cases v3 with
      | false =>
        refine AC.mk (n := 62) (fn := Tryd.f57) Tryd.func57 (by kernel_rfl) rfl rfl rfl rfl (fun cx => ?_); dsimp only [argv, Nat.reduceAdd]
        simp only [Bool.false_and, Bool.true_and, Bool.and_false, Bool.and_true, Bool.not_true, Bool.not_false]
        (repeat' (first | refine a_seq ?_ | refine a_ret ?_ | refine a_region ?_ | refine l_nil ?_ | refine q_nil ?_ | ((first | apply w_q | apply w_qq); (focus (first | exact Q_move (by conv => lhs; whnf) | exact Q_assign (by conv => lhs; whnf) | exact Q_ld_rpa rfl KAg.h rfl rfl (by first | (dsimp only [List.drop_zero, List.drop_succ_cons, List.take_succ_cons, List.take_zero, List.map, ofD]; done) | exact rfl) | exact Q_ld_rv rfl rfl KSc.h | exact Q_pick_t rfl rfl (by conv => lhs; whnf) | exact Q_pick_f rfl rfl (by conv => lhs; whnf))); (focus exact rfl)) | refine w_qguard_y rfl rfl rfl (by first | assumption | rfl) ?_ | refine w_qguard_n rfl rfl rfl (by first | assumption | rfl) ?_ | refine a_draw (by kernel_rfl) (by kernel_rfl) ?_ | (((first | apply w_qq); (focus (refine Q_call (.inl ⟨rfl, rfl⟩) (k1) ?_; ((repeat' (first | exact trivial | exact vwR rfl | exact vwRL rfl | exact Vw.ro _ | refine Vw.agg' ?_ | refine ⟨?_, ?_⟩ )); done))); (focus exact rfl))) | (((first | apply w_qq); (focus (refine Q_call (.inl ⟨rfl, rfl⟩) (k2) ?_; ((repeat' (first | exact trivial | exact vwR rfl | exact vwRL rfl | exact Vw.ro _ | refine Vw.agg' ?_ | refine ⟨?_, ?_⟩ )); done))); (focus exact rfl))) | (((first | apply w_qq); (focus (refine Q_call (.inl ⟨rfl, rfl⟩) (k3) ?_; ((repeat' (first | exact trivial | exact vwR rfl | exact vwRL rfl | exact Vw.ro _ | refine Vw.agg' ?_ | refine ⟨?_, ?_⟩ )); done))); (focus exact rfl))) | (((first | apply w_qq); (focus exact Q_ix_ints (l := [(a : Int), (b : Int), (c : Int), (d : Int)]) (o := 0) rfl rfl rfl KSl.h (by simp)); (focus exact rfl))) | (((first | apply w_qq); (focus exact Q_ix_ints (l := [(a : Int), (b : Int), (c : Int), (d : Int)]) (o := 1) rfl rfl rfl KSl.h (by simp)); (focus exact rfl))) | (((first | apply w_qq); (focus exact Q_ix_ints (l := [(a : Int), (b : Int), (c : Int), (d : Int)]) (o := 2) rfl rfl rfl KSl.h (by simp)); (focus exact rfl))) | (((first | apply w_qq); (focus exact Q_ix_ints (l := [(a : Int), (b : Int), (c : Int), (d : Int)]) (o := 3) rfl rfl rfl KSl.h (by simp)); (focus exact rfl))))); (try all_goals (try show retA _ _ _ _ _ _ _))
        all_goals first
          | (exfalso; omega)
          | (refine ⟨[_], [], ⟨resV_tmp (by conv => lhs; whnf), trivial⟩, VwOs.mk (by decide) trivial, ?_, rfl⟩; (repeat' (first | exact vwR rfl)); done)
          | (refine ⟨[_], [], ⟨resV_tmp (by conv => lhs; whnf), trivial⟩, VwOs.mk (by decide) trivial, ?_, rfl⟩; exact Vw.bool' (by simp))
          | (all_goals trace_state); fail
      | true =>
        cases v4 with
        | false =>
          refine AC.mk (n := 62) (fn := Tryd.f57) Tryd.func57 (by kernel_rfl) rfl rfl rfl rfl (fun cx => ?_); dsimp only [argv, Nat.reduceAdd]
          simp only [Bool.false_and, Bool.true_and, Bool.and_false, Bool.and_true, Bool.not_true, Bool.not_false]
          (repeat' (first | refine a_seq ?_ | refine a_ret ?_ | refine a_region ?_ | refine l_nil ?_ | refine q_nil ?_ | ((first | apply w_q | apply w_qq); (focus (first | exact Q_move (by conv => lhs; whnf) | exact Q_assign (by conv => lhs; whnf) | exact Q_ld_rpa rfl KAg.h rfl rfl (by first | (dsimp only [List.drop_zero, List.drop_succ_cons, List.take_succ_cons, List.take_zero, List.map, ofD]; done) | exact rfl) | exact Q_ld_rv rfl rfl KSc.h | exact Q_pick_t rfl rfl (by conv => lhs; whnf) | exact Q_pick_f rfl rfl (by conv => lhs; whnf))); (focus exact rfl)) | refine w_qguard_y rfl rfl rfl (by first | assumption | rfl) ?_ | refine w_qguard_n rfl rfl rfl (by first | assumption | rfl) ?_ | refine a_draw (by kernel_rfl) (by kernel_rfl) ?_ | (((first | apply w_qq); (focus (refine Q_call (.inl ⟨rfl, rfl⟩) (k1) ?_; ((repeat' (first | exact trivial | exact vwR rfl | exact vwRL rfl | exact Vw.ro _ | refine Vw.agg' ?_ | refine ⟨?_, ?_⟩ )); done))); (focus exact rfl))) | (((first | apply w_qq); (focus (refine Q_call (.inl ⟨rfl, rfl⟩) (k2) ?_; ((repeat' (first | exact trivial | exact vwR rfl | exact vwRL rfl | exact Vw.ro _ | refine Vw.agg' ?_ | refine ⟨?_, ?_⟩ )); done))); (focus exact rfl))) | (((first | apply w_qq); (focus (refine Q_call (.inl ⟨rfl, rfl⟩) (k3) ?_; ((repeat' (first | exact trivial | exact vwR rfl | exact vwRL rfl | exact Vw.ro _ | refine Vw.agg' ?_ | refine ⟨?_, ?_⟩ )); done))); (focus exact rfl))) | (((first | apply w_qq); (focus (refine Q_call (.inl ⟨rfl, rfl⟩) (k4) ?_; ((repeat' (first | exact trivial | exact vwR rfl | exact vwRL rfl | exact Vw.ro _ | refine Vw.agg' ?_ | refine ⟨?_, ?_⟩ )); done))); (focus exact rfl))) | (((first | apply w_qq); (focus exact Q_ix_ints (l := [(a : Int), (b : Int), (c : Int), (d : Int)]) (o := 0) rfl rfl rfl KSl.h (by simp)); (focus exact rfl))) | (((first | apply w_qq); (focus exact Q_ix_ints (l := [(a : Int), (b : Int), (c : Int), (d : Int)]) (o := 1) rfl rfl rfl KSl.h (by simp)); (focus exact rfl))) | (((first | apply w_qq); (focus exact Q_ix_ints (l := [(a : Int), (b : Int), (c : Int), (d : Int)]) (o := 2) rfl rfl rfl KSl.h (by simp)); (focus exact rfl))) | (((first | apply w_qq); (focus exact Q_ix_ints (l := [(a : Int), (b : Int), (c : Int), (d : Int)]) (o := 3) rfl rfl rfl KSl.h (by simp)); (focus exact rfl))))); (try all_goals (try show retA _ _ _ _ _ _ _))
          all_goals first
            | (exfalso; omega)
            | (refine ⟨[_], [], ⟨resV_tmp (by conv => lhs; whnf), trivial⟩, VwOs.mk (by decide) trivial, ?_, rfl⟩; (repeat' (first | exact vwR rfl)); done)
            | (refine ⟨[_], [], ⟨resV_tmp (by conv => lhs; whnf), trivial⟩, VwOs.mk (by decide) trivial, ?_, rfl⟩; exact Vw.bool' (by simp))
            | (all_goals trace_state); fail
        | true =>
          cases v5 with
          | false =>
            refine AC.mk (n := 62) (fn := Tryd.f57) Tryd.func57 (by kernel_rfl) rfl rfl rfl rfl (fun cx => ?_); dsimp only [argv, Nat.reduceAdd]
            simp only [Bool.false_and, Bool.true_and, Bool.and_false, Bool.and_true, Bool.not_true, Bool.not_false]
            (repeat' (first | refine a_seq ?_ | refine a_ret ?_ | refine a_region ?_ | refine l_nil ?_ | refine q_nil ?_ | ((first | apply w_q | apply w_qq); (focus (first | exact Q_move (by conv => lhs; whnf) | exact Q_assign (by conv => lhs; whnf) | exact Q_ld_rpa rfl KAg.h rfl rfl (by first | (dsimp only [List.drop_zero, List.drop_succ_cons, List.take_succ_cons, List.take_zero, List.map, ofD]; done) | exact rfl) | exact Q_ld_rv rfl rfl KSc.h | exact Q_pick_t rfl rfl (by conv => lhs; whnf) | exact Q_pick_f rfl rfl (by conv => lhs; whnf))); (focus exact rfl)) | refine w_qguard_y rfl rfl rfl (by first | assumption | rfl) ?_ | refine w_qguard_n rfl rfl rfl (by first | assumption | rfl) ?_ | refine a_draw (by kernel_rfl) (by kernel_rfl) ?_ | (((first | apply w_qq); (focus (refine Q_call (.inl ⟨rfl, rfl⟩) (k1) ?_; ((repeat' (first | exact trivial | exact vwR rfl | exact vwRL rfl | exact Vw.ro _ | refine Vw.agg' ?_ | refine ⟨?_, ?_⟩ )); done))); (focus exact rfl))) | (((first | apply w_qq); (focus (refine Q_call (.inl ⟨rfl, rfl⟩) (k2) ?_; ((repeat' (first | exact trivial | exact vwR rfl | exact vwRL rfl | exact Vw.ro _ | refine Vw.agg' ?_ | refine ⟨?_, ?_⟩ )); done))); (focus exact rfl))) | (((first | apply w_qq); (focus (refine Q_call (.inl ⟨rfl, rfl⟩) (k3) ?_; ((repeat' (first | exact trivial | exact vwR rfl | exact vwRL rfl | exact Vw.ro _ | refine Vw.agg' ?_ | refine ⟨?_, ?_⟩ )); done))); (focus exact rfl))) | (((first | apply w_qq); (focus (refine Q_call (.inl ⟨rfl, rfl⟩) (k4) ?_; ((repeat' (first | exact trivial | exact vwR rfl | exact vwRL rfl | exact Vw.ro _ | refine Vw.agg' ?_ | refine ⟨?_, ?_⟩ )); done))); (focus exact rfl))) | (((first | apply w_qq); (focus (refine Q_call (.inl ⟨rfl, rfl⟩) (k5) ?_; ((repeat' (first | exact trivial | exact vwR rfl | exact vwRL rfl | exact Vw.ro _ | refine Vw.agg' ?_ | refine ⟨?_, ?_⟩ )); done))); (focus exact rfl))) | (((first | apply w_qq); (focus exact Q_ix_ints (l := [(a : Int), (b : Int), (c : Int), (d : Int)]) (o := 0) rfl rfl rfl KSl.h (by simp)); (focus exact rfl))) | (((first | apply w_qq); (focus exact Q_ix_ints (l := [(a : Int), (b : Int), (c : Int), (d : Int)]) (o := 1) rfl rfl rfl KSl.h (by simp)); (focus exact rfl))) | (((first | apply w_qq); (focus exact Q_ix_ints (l := [(a : Int), (b : Int), (c : Int), (d : Int)]) (o := 2) rfl rfl rfl KSl.h (by simp)); (focus exact rfl))) | (((first | apply w_qq); (focus exact Q_ix_ints (l := [(a : Int), (b : Int), (c : Int), (d : Int)]) (o := 3) rfl rfl rfl KSl.h (by simp)); (focus exact rfl))))); (try all_goals (try show retA _ _ _ _ _ _ _))
            all_goals first
              | (exfalso; omega)
              | (refine ⟨[_], [], ⟨resV_tmp (by conv => lhs; whnf), trivial⟩, VwOs.mk (by decide) trivial, ?_, rfl⟩; (repeat' (first | exact vwR rfl)); done)
              | (refine ⟨[_], [], ⟨resV_tmp (by conv => lhs; whnf), trivial⟩, VwOs.mk (by decide) trivial, ?_, rfl⟩; exact Vw.bool' (by simp))
              | (all_goals trace_state); fail
          | true =>
            cases v6 with
            | false =>
              refine AC.mk (n := 62) (fn := Tryd.f57) Tryd.func57 (by kernel_rfl) rfl rfl rfl rfl (fun cx => ?_); dsimp only [argv, Nat.reduceAdd]
              simp only [Bool.false_and, Bool.true_and, Bool.and_false, Bool.and_true, Bool.not_true, Bool.not_false]
              (repeat' (first | refine a_seq ?_ | refine a_ret ?_ | refine a_region ?_ | refine l_nil ?_ | refine q_nil ?_ | ((first | apply w_q | apply w_qq); (focus (first | exact Q_move (by conv => lhs; whnf) | exact Q_assign (by conv => lhs; whnf) | exact Q_ld_rpa rfl KAg.h rfl rfl (by first | (dsimp only [List.drop_zero, List.drop_succ_cons, List.take_succ_cons, List.take_zero, List.map, ofD]; done) | exact rfl) | exact Q_ld_rv rfl rfl KSc.h | exact Q_pick_t rfl rfl (by conv => lhs; whnf))); (focus exact rfl)) | refine w_qguard_y rfl rfl rfl (by first | assumption | rfl) ?_ | refine a_draw (by kernel_rfl) (by kernel_rfl) ?_ | (((first | apply w_qq); (focus (refine Q_call (.inl ⟨rfl, rfl⟩) (k1) ?_; ((repeat' (first | exact trivial | exact vwR rfl | exact vwRL rfl | exact Vw.ro _ | refine Vw.agg' ?_ | refine ⟨?_, ?_⟩ )); done))); (focus exact rfl))) | (((first | apply w_qq); (focus (refine Q_call (.inl ⟨rfl, rfl⟩) (k2) ?_; ((repeat' (first | exact trivial | exact vwR rfl | exact vwRL rfl | exact Vw.ro _ | refine Vw.agg' ?_ | refine ⟨?_, ?_⟩ )); done))); (focus exact rfl))) | (((first | apply w_qq); (focus (refine Q_call (.inl ⟨rfl, rfl⟩) (k3) ?_; ((repeat' (first | exact trivial | exact vwR rfl | exact vwRL rfl | exact Vw.ro _ | refine Vw.agg' ?_ | refine ⟨?_, ?_⟩ )); done))); (focus exact rfl))) | (((first | apply w_qq); (focus (refine Q_call (.inl ⟨rfl, rfl⟩) (k4) ?_; ((repeat' (first | exact trivial | exact vwR rfl | exact vwRL rfl | exact Vw.ro _ | refine Vw.agg' ?_ | refine ⟨?_, ?_⟩ )); done))); (focus exact rfl))) | (((first | apply w_qq); (focus (refine Q_call (.inl ⟨rfl, rfl⟩) (k5) ?_; ((repeat' (first | exact trivial | exact vwR rfl | exact vwRL rfl | exact Vw.ro _ | refine Vw.agg' ?_ | refine ⟨?_, ?_⟩ )); done))); (focus exact rfl))) | (((first | apply w_qq); (focus (refine Q_call (.inl ⟨rfl, rfl⟩) (k6) ?_; ((repeat' (first | exact trivial | exact vwR rfl | exact vwRL rfl | exact Vw.ro _ | refine Vw.agg' ?_ | refine ⟨?_, ?_⟩ )); done))); (focus exact rfl))) | (((first | apply w_qq); (focus exact Q_ix_ints (l := [(a : Int), (b : Int), (c : Int), (d : Int)]) (o := 0) rfl rfl rfl KSl.h (by simp)); (focus exact rfl))) | (((first | apply w_qq); (focus exact Q_ix_ints (l := [(a : Int), (b : Int), (c : Int), (d : Int)]) (o := 1) rfl rfl rfl KSl.h (by simp)); (focus exact rfl))) | (((first | apply w_qq); (focus exact Q_ix_ints (l := [(a : Int), (b : Int), (c : Int), (d : Int)]) (o := 2) rfl rfl rfl KSl.h (by simp)); (focus exact rfl))) | (((first | apply w_qq); (focus exact Q_ix_ints (l := [(a : Int), (b : Int), (c : Int), (d : Int)]) (o := 3) rfl rfl rfl KSl.h (by simp)); (focus exact rfl))))); (try all_goals (try show retA _ _ _ _ _ _ _))
              all_goals first
                | (exfalso; omega)
                | (refine ⟨[_], [], ⟨resV_tmp (by conv => lhs; whnf), trivial⟩, VwOs.mk (by decide) trivial, ?_, rfl⟩; (repeat' (first | exact vwR rfl)); done)
                | (refine ⟨[_], [], ⟨resV_tmp (by conv => lhs; whnf), trivial⟩, VwOs.mk (by decide) trivial, ?_, rfl⟩; exact Vw.bool' (by simp))
                | (all_goals trace_state); fail
            | true =>
              refine AC.mk (n := 62) (fn := Tryd.f57) Tryd.func57 (by kernel_rfl) rfl rfl rfl rfl (fun cx => ?_); dsimp only [argv, Nat.reduceAdd]
              simp only [Bool.false_and, Bool.true_and, Bool.and_false, Bool.and_true, Bool.not_true, Bool.not_false]
              (repeat' (first | refine a_seq ?_ | refine a_ret ?_ | refine a_region ?_ | refine l_nil ?_ | refine q_nil ?_ | ((first | apply w_q | apply w_qq); (focus (first | exact Q_move (by conv => lhs; whnf) | exact Q_assign (by conv => lhs; whnf) | exact Q_ld_rpa rfl KAg.h rfl rfl (by first | (dsimp only [List.drop_zero, List.drop_succ_cons, List.take_succ_cons, List.take_zero, List.map, ofD]; done) | exact rfl) | exact Q_ld_rv rfl rfl KSc.h | exact Q_pick_t rfl rfl (by conv => lhs; whnf))); (focus exact rfl)) | refine w_qguard_y rfl rfl rfl (by first | assumption | rfl) ?_ | refine a_draw (by kernel_rfl) (by kernel_rfl) ?_ | (((first | apply w_qq); (focus (refine Q_call (.inl ⟨rfl, rfl⟩) (k1) ?_; ((repeat' (first | exact trivial | exact vwR rfl | exact vwRL rfl | exact Vw.ro _ | refine Vw.agg' ?_ | refine ⟨?_, ?_⟩ )); done))); (focus exact rfl))) | (((first | apply w_qq); (focus (refine Q_call (.inl ⟨rfl, rfl⟩) (k2) ?_; ((repeat' (first | exact trivial | exact vwR rfl | exact vwRL rfl | exact Vw.ro _ | refine Vw.agg' ?_ | refine ⟨?_, ?_⟩ )); done))); (focus exact rfl))) | (((first | apply w_qq); (focus (refine Q_call (.inl ⟨rfl, rfl⟩) (k3) ?_; ((repeat' (first | exact trivial | exact vwR rfl | exact vwRL rfl | exact Vw.ro _ | refine Vw.agg' ?_ | refine ⟨?_, ?_⟩ )); done))); (focus exact rfl))) | (((first | apply w_qq); (focus (refine Q_call (.inl ⟨rfl, rfl⟩) (k4) ?_; ((repeat' (first | exact trivial | exact vwR rfl | exact vwRL rfl | exact Vw.ro _ | refine Vw.agg' ?_ | refine ⟨?_, ?_⟩ )); done))); (focus exact rfl))) | (((first | apply w_qq); (focus (refine Q_call (.inl ⟨rfl, rfl⟩) (k5) ?_; ((repeat' (first | exact trivial | exact vwR rfl | exact vwRL rfl | exact Vw.ro _ | refine Vw.agg' ?_ | refine ⟨?_, ?_⟩ )); done))); (focus exact rfl))) | (((first | apply w_qq); (focus (refine Q_call (.inl ⟨rfl, rfl⟩) (k6) ?_; ((repeat' (first | exact trivial | exact vwR rfl | exact vwRL rfl | exact Vw.ro _ | refine Vw.agg' ?_ | refine ⟨?_, ?_⟩ )); done))); (focus exact rfl))) | (((first | apply w_qq); (focus exact Q_ix_ints (l := [(a : Int), (b : Int), (c : Int), (d : Int)]) (o := 0) rfl rfl rfl KSl.h (by simp)); (focus exact rfl))) | (((first | apply w_qq); (focus exact Q_ix_ints (l := [(a : Int), (b : Int), (c : Int), (d : Int)]) (o := 1) rfl rfl rfl KSl.h (by simp)); (focus exact rfl))) | (((first | apply w_qq); (focus exact Q_ix_ints (l := [(a : Int), (b : Int), (c : Int), (d : Int)]) (o := 2) rfl rfl rfl KSl.h (by simp)); (focus exact rfl))) | (((first | apply w_qq); (focus exact Q_ix_ints (l := [(a : Int), (b : Int), (c : Int), (d : Int)]) (o := 3) rfl rfl rfl KSl.h (by simp)); (focus exact rfl))))); (try all_goals (try show retA _ _ _ _ _ _ _))
              all_goals first
                | (exfalso; omega)
                | (refine ⟨[_], [], ⟨resV_tmp (by conv => lhs; whnf), trivial⟩, VwOs.mk (by decide) trivial, ?_, rfl⟩; (repeat' (first | exact vwR rfl)); done)
                | (refine ⟨[_], [], ⟨resV_tmp (by conv => lhs; whnf), trivial⟩, VwOs.mk (by decide) trivial, ?_, rfl⟩; exact Vw.bool' (by simp))
                | (all_goals trace_state); fail
theorem ZigOf_ac (n : Nat) (ns : List Nat) (hn : n ≤ 10) (hv : Vld n ns) : AC Tryd.prog 17 [ordv n (nl ns)] [] (.tup [ints (nl (qdR n (zqQ ns))), .val (.bool (qdY n (zqQ ns)))]) [] := by
  have kF := FourPoints_ac n (zqQ ns) hn (g := 57) (caps := [.rpt [.val (.int .i64 n), .sl 1 (intc (nl ns))] 0]) rfl (fun a b c d ha hb hc hd _ => ZigC1_ac n ns hn hv a b c d ha hb hc hd)
  refine AC.mk (n := 10) (fn := Tryd.f17) Tryd.func17 (by kernel_rfl) rfl rfl rfl rfl (fun cx => ?_); dsimp only [argv, Nat.reduceAdd]
  (repeat' (first | refine a_seq ?_ | refine a_region ?_ | refine l_nil ?_ | (apply w_q; (focus (first | exact Q_assign (by conv => lhs; whnf))); (focus exact rfl)) | refine w_box rfl rfl (by first|(dsimp only[obA,obB,obD,obE,obF,obG,obI,List.map,AO.sh,AV.sh,AV.shl,Nat.reduceAdd];done)|exact rfl) (by first|(dsimp only[obA,obB,obD,obE,obF,obG,obI,List.map,AO.sh,AV.sh,AV.shl,Nat.reduceAdd];done)|exact rfl) rfl ?_)); (try all_goals (try show retA _ _ _ _ _ _ _))
  refine w_freezeB 0 [.val (.int .i64 n), .sl 1 (intc (nl ns))] rfl rfl (by simp only [fbv_nil, fbv_cons, fbl_nil, fbl_cons, fbo_nil, fbo_cons, fbo_box, fbo_row, fbo_gone, fb_own, fb_val, fb_ro, fb_rpt, fb_ptr, fb_ept, fb_agg, fb_tup, fb_clo, fb_ints, fb_rows, fb_pairs, fb_ords, Nat.reduceEqDiff, ↓reduceIte, List.set_cons_zero, List.set_cons_succ]; exact rfl) (by simp only [fbv_nil, fbv_cons, fbl_nil, fbl_cons, fbo_nil, fbo_cons, fbo_box, fbo_row, fbo_gone, fb_own, fb_val, fb_ro, fb_rpt, fb_ptr, fb_ept, fb_agg, fb_tup, fb_clo, fb_ints, fb_rows, fb_pairs, fb_ords, Nat.reduceEqDiff, ↓reduceIte, List.set_cons_zero, List.set_cons_succ]; exact rfl) ?_
  (repeat' (first | refine a_ret ?_ | refine l_nil ?_ | (apply w_q; (focus (first | exact Q_assign (by conv => lhs; whnf) | exact Q_fieldAddr_rpt rfl KFl.h | exact Q_ld_rv rfl rfl KSc.h | exact Q_extract rfl (by conv => lhs; whnf) | exact Q_clo1 (by conv => lhs; whnf))); (focus exact rfl)) | ((refine w_callV (.inl ⟨rfl, rfl⟩) (kF) ?_ (by first | (dsimp only [AV.sh, AV.shl, sh_ints, sh_rows, sh_pairs, sh_ords]; done) | exact rfl) rfl ?_; rotate_left 0; (focus ((repeat' (first | exact trivial | exact Vs.val _ | exact Vs.rpt _ _ | refine Vs.clo' ?_ | refine ⟨?_, ?_⟩)); done)); rotate_left 1; all_goals (try (skip)))))); (try all_goals (try show retA _ _ _ _ _ _ _))
  refine ⟨[_, _], [], ⟨resV_tmp (by conv => lhs; whnf), resV_tmp (by conv => lhs; whnf), trivial⟩, VwOs.mk (by decide) trivial, ?_, rfl⟩
  (repeat' (first | exact vwRL rfl | exact Vw.ro _ | refine Vw.tup' ?_ | refine ⟨?_, ?_⟩ ))
end Go.Proofs.YtbgecpjlopdkfaaDoor
