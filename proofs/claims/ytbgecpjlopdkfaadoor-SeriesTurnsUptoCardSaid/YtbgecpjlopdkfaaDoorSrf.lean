import Derived.Test.YtbgecpjlopdkfaaDoorSrb
import Derived.Test.YtbgecpjlopdkfaaDoorEngZm
import Derived.Test.YtbgecpjlopdkfaaDoorEngT
import Derived.Test.YtbgecpjlopdkfaaDoorSra
set_option linter.unusedSimpArgs false
set_option linter.unusedVariables false
set_option linter.unusedSectionVars false
set_option maxRecDepth 20000
namespace Go.Proofs.YtbgecpjlopdkfaaDoor
attribute [local irreducible] QOp aL aC qL
theorem P_ixI {P : Program} {st : St} {x ix : Operand} {T e : TypeId} {l : List Int} {i : Int} {o : Nat} {d : Option Tmp} {ty : TypeId} {pos : String} {af : Array Edge} {g : Option (Nat × Bool)} (hx : st.ev x = ints l) (hi : st.ev ix = .val (.int .i64 i)) (ho : i = (o : Int)) (ht : SlT P T e 1) (h : o < l.length) :
    POp P ⟨d, .indexAddr T x ix, ty, pos, af, g⟩ st (.rpt (intc l) o) := fun _ ρ w a hr => by
  have hg := hr.ev x
  rw [hx] at hg
  have hrd := hg.ro_inv
  have hn := intc_len l
  generalize intc l = cs at *
  obtain ⟨u, hu⟩ : ∃ u, a.eval x = u := ⟨_, rfl⟩
  rw [hu] at hrd
  cases hrd with
  | nil _ => simp only [List.length_nil] at hn; omega
  | sl ad n' cap _ _ us hn' hsp hM hc hd =>
    have hnn : l.length = n' := by omega
    subst hnn
    refine ⟨.pointer (some (ad.add (i.toNat * 1))), ?_, fun w1 => ?_⟩
    · rw [show i.toNat * 1 = o by omega]
      exact .rpt ad _ _ us trivial hM hc hd
    · simp only [execOp, hu, hr.evv hi, Sem.run_bind, run_indexAt_slice (P := P) ht ad l.length cap .i64 i (by omega) (by omega) w1, Result.andThen_ok, Sem.run_pure]
theorem P_sub {P : Program} {st : St} {x y : Operand} {T T' : TypeId} {m n : Int} {d : Option Tmp} {ty : TypeId} {pos : String} {af : Array Edge} {g : Option (Nat × Bool)} (hx : st.ev x = .val (.int .i64 m)) (hy : st.ev y = .val (.int .i64 n)) (h : -9223372036854775808 ≤ m - n ∧ m - n ≤ 9223372036854775807) :
    POp P ⟨d, .binOp .sub T x y T', ty, pos, af, g⟩ st (.val (.int .i64 (m - n))) := fun _ ρ w a hr => ⟨_, .val _, fun w1 => by
  have e : (binOp .sub T (.int .i64 m) (.int .i64 n)).run P w1 = .ok (.int .i64 (m - n)) w1 := by
    show Result.ok (Value.int .i64 (IntKind.i64.wrap (m - n))) _ = _
    rw [IntWalk.i64_in _ h]
  simp only [execOp, hr.evv hx, hr.evv hy, Sem.run_bind, run_eqGuard_int, Result.andThen_ok, e, Sem.run_pure]⟩
def oD (n : Nat) (ns : List Nat) : List Dat := [.val (.int .i64 (n : Nat)), .sl 1 (intc (nl ns))]
def abvS (ns : List Nat) (a b : Nat) : Bool := lt ns a b || lt ns b a
theorem split1_ac (n : Nat) (ns : List Nat) (a b : Nat) (ha : a < ns.length) (hb : b < ns.length) (hn : ns.length ≤ 10) : AC Tryd.prog 101 [.val (.int .i64 (a : Nat)), .val (.int .i64 (b : Nat)), .rpt (oD n ns) 0] [] (.val (.bool (abvS ns a b))) [] := by
  have k1 := Lower_ac n ns a b hb (by omega)
  have k2 := Lower_ac n ns b a ha (by omega)
  unfold abvS lt
  generalize (ns.getD b 0).testBit a = x at *
  generalize (ns.getD a 0).testBit b = y at *
  unfold oD
  rcases x with _ | _
  · refine AC.mk (n := 16) (fn := Tryd.f101) Tryd.func101 (by kernel_rfl) rfl rfl rfl rfl (fun cx => ?_); dsimp only [argv, Nat.reduceAdd]
    (repeat' (first | refine a_seq ?_ | refine a_ret ?_ | refine a_region ?_ | refine l_nil ?_ | (apply w_q; (focus (first | exact Q_move (by conv => lhs; whnf) | exact Q_assign (by conv => lhs; whnf) | exact Q_ld_rpa rfl KAg.h rfl rfl (by first | (dsimp only [List.drop_zero, List.drop_succ_cons, List.take_succ_cons, List.take_zero, List.map, ofD]; done) | exact rfl) | exact Q_pick_f rfl rfl (by conv => lhs; whnf))); (focus exact rfl)) | refine w_guard_y rfl rfl rfl (by first | assumption | rfl) ?_ | (((first | apply w_q); (focus (refine Q_call (.inl ⟨rfl, rfl⟩) (k1) ?_; ((repeat' (first | exact trivial | exact vwR rfl | exact vwRL rfl | exact Vw.ro _ | refine Vw.agg' ?_ | refine ⟨?_, ?_⟩ )); done))); (focus exact rfl))) | (((first | apply w_q); (focus (refine Q_call (.inl ⟨rfl, rfl⟩) (k2) ?_; ((repeat' (first | exact trivial | exact vwR rfl | exact vwRL rfl | exact Vw.ro _ | refine Vw.agg' ?_ | refine ⟨?_, ?_⟩ )); done))); (focus exact rfl))))); (try all_goals (try show retA _ _ _ _ _ _ _))
    all_goals first
      | (exfalso; simp_all; done)
      | (refine ⟨[_], [], ⟨resV_tmp (by conv => lhs; whnf), trivial⟩, VwOs.mk (by decide) trivial, ?_, rfl⟩; exact Vw.bool' (by simp))
      | (all_goals trace_state); fail
  · refine AC.mk (n := 16) (fn := Tryd.f101) Tryd.func101 (by kernel_rfl) rfl rfl rfl rfl (fun cx => ?_); dsimp only [argv, Nat.reduceAdd]
    (repeat' (first | refine a_seq ?_ | refine a_ret ?_ | refine a_region ?_ | refine l_nil ?_ | (apply w_q; (focus (first | exact Q_move (by conv => lhs; whnf) | exact Q_assign (by conv => lhs; whnf) | exact Q_ld_rpa rfl KAg.h rfl rfl (by first | (dsimp only [List.drop_zero, List.drop_succ_cons, List.take_succ_cons, List.take_zero, List.map, ofD]; done) | exact rfl) | exact Q_pick_t rfl rfl (by conv => lhs; whnf))); (focus exact rfl)) | refine w_guard_n rfl rfl rfl (by first | assumption | rfl) ?_ | (((first | apply w_q); (focus (refine Q_call (.inl ⟨rfl, rfl⟩) (k1) ?_; ((repeat' (first | exact trivial | exact vwR rfl | exact vwRL rfl | exact Vw.ro _ | refine Vw.agg' ?_ | refine ⟨?_, ?_⟩ )); done))); (focus exact rfl))))); (try all_goals (try show retA _ _ _ _ _ _ _))
    all_goals first
      | (exfalso; simp_all; done)
      | (refine ⟨[_], [], ⟨resV_tmp (by conv => lhs; whnf), trivial⟩, VwOs.mk (by decide) trivial, ?_, rfl⟩; exact Vw.bool' (by simp))
      | (all_goals trace_state); fail
theorem split2_ac (n : Nat) (ns : List Nat) (a b : Nat) (ha : a < ns.length) (hb : b < ns.length) (hn : ns.length ≤ 10) : AC Tryd.prog 103 [.val (.int .i64 (a : Nat)), .val (.int .i64 (b : Nat)), .rpt [.fn (fnd (.clo 101 [.rpt (oD n ns) 0]))] 0] [] (.val (.bool (!abvS ns a b))) [] := by
  have k1 := split1_ac n ns a b ha hb hn
  refine AC.mk (n := 11) (fn := Tryd.f103) Tryd.func103 (by kernel_rfl) rfl rfl rfl rfl (fun cx => ?_); dsimp only [argv, Nat.reduceAdd]
  (repeat' (first | refine a_seq ?_ | refine a_ret ?_ | refine a_region ?_ | refine l_nil ?_ | (apply w_q; (focus (first | exact Q_move (by conv => lhs; whnf) | exact Q_assign (by conv => lhs; whnf) | exact Q_not rfl)); (focus exact rfl)) | (((first | apply w_q); (focus exact Q_load_rpt (dt := .fn (fnd (.clo 101 [.rpt (oD n ns) 0]))) rfl rfl KSc.h); (focus exact rfl))) | ((refine w_fn 6 (cl := .clo 101 [.rpt (oD n ns) 0]) rfl rfl ?_)) | (((first | apply w_q); (focus (refine Q_call (by exact callee_of (isFn_clo _ _) rfl) (k1) ?_; ((repeat' (first | exact vwRL rfl)); done))); (focus exact rfl))))); (try all_goals (try show retA _ _ _ _ _ _ _))
  all_goals first
    | (exfalso; simp_all; done)
    | (refine ⟨[_], [], ⟨resV_tmp (by conv => lhs; whnf), trivial⟩, VwOs.mk (by decide) trivial, ?_, rfl⟩; exact Vw.bool' (by simp))
    | (all_goals trace_state); fail
set_option maxHeartbeats 1000000 in
theorem split3_ac (n : Nat) (ns : List Nat) (p q a b : Nat) (hp : p < 1024) (hq : q < 1024) (ha : (mbs p).getD 0 0 = a) (hb : (mbs q).getD 0 0 = b) (hp0 : 0 < (mbs p).length) (hq0 : 0 < (mbs q).length) (hbn : b < ns.length) (hpa : a < 10) : AC Tryd.prog 105 [.val (.int .i64 (p : Nat)), .val (.int .i64 (q : Nat)), .rpt (oD n ns) 0] [] (.val (.int .i64 (if lt ns a b = true then -1 else 1))) [] := by
  have k1 := Lower_ac n ns a b hbn (by omega)
  have k2 := Members_ac p hp
  have k3 := Members_ac q hq
  have e1 : (nl (mbs p)).getD 0 0 = (a : Int) := by rw [nl_get, ha]
  have e2 : (nl (mbs q)).getD 0 0 = (b : Int) := by rw [nl_get, hb]
  have e3 : 0 < (nl (mbs p)).length := by simp only [nl, List.length_map]; exact hp0
  have e4 : 0 < (nl (mbs q)).length := by simp only [nl, List.length_map]; exact hq0
  rw [← e1, ← e2] at k1
  have e5 : lt ns a b = (ns.getD b 0).testBit a := rfl
  rw [e5]
  generalize (ns.getD b 0).testBit a = x at *
  generalize nl (mbs p) = P1 at *
  generalize nl (mbs q) = Q1 at *
  unfold oD
  cases x
  all_goals
    refine AC.mk (n := 16) (fn := Tryd.f105) Tryd.func105 (by kernel_rfl) rfl rfl rfl rfl (fun cx => ?_); dsimp only [argv, Nat.reduceAdd]
    (repeat' (first | (refine a_holdRN (id := 1) (by kernel_rfl) rfl ?_; apply rw_first 0 rfl (by kernel_rfl); (focus (first | exact R_ld_rpa rfl KAg.h rfl (by first | (dsimp only [List.map, ofD]; done) | exact rfl))); (focus exact rfl); refine rw_frame (fun _ _ => ?_)) | (apply xw_first (listed := [true, false, false, false, false, false, false, false, false, false]) 1 rfl (by kernel_rfl); (focus (first | exact P_move (by conv => lhs; whnf))); (focus exact rfl)) | (apply xw_first (listed := [true, true, false, false, false, false, false, false, false, false]) 5 rfl (by kernel_rfl); (focus (first | exact P_move (by conv => lhs; whnf))); (focus exact rfl)) | refine xh_step (listed := [true, true, false, false, false, true, false, false, false, false]) (i := 2) (is := []) (by kernel_rfl) ⟨⟨_, rfl, ?_⟩, trivial⟩ | (apply xw_first (listed := [true, true, true, false, false, true, false, false, false, false]) 3 rfl (by kernel_rfl); (focus (first | exact P_ixI rfl rfl rfl KSl.h (by omega))); (focus exact rfl)) | refine xh_step (listed := [true, true, true, true, false, true, false, false, false, false]) (i := 4) (is := [6]) (by kernel_rfl) ⟨⟨_, rfl, ?_⟩, ⟨_, rfl, ?_⟩, trivial⟩ | (apply xw_first (listed := [true, true, true, true, false, true, true, false, false, false]) 7 rfl (by kernel_rfl); (focus (first | exact P_ixI rfl rfl rfl KSl.h (by omega))); (focus exact rfl)) | refine xh_step (listed := [true, true, true, true, false, true, true, true, false, false]) (i := 4) (is := [8]) (by kernel_rfl) ⟨⟨_, rfl, ?_⟩, ⟨_, rfl, ?_⟩, trivial⟩ | refine xh_step (listed := [true, true, true, true, false, true, true, true, true, false]) (i := 4) (is := []) (by kernel_rfl) ⟨⟨_, rfl, ?_⟩, trivial⟩ | refine xh_step (listed := [true, true, true, true, true, true, true, true, true, false]) (i := 9) (is := []) (by kernel_rfl) ⟨⟨_, rfl, ?_⟩, trivial⟩ | refine xh_done (listed := [true, true, true, true, true, true, true, true, true, true]) (by kernel_rfl) ?_ | refine xh_step (listed := [true, true, true, true, true, true, true, true, false, false]) (i := 8) (is := []) (by kernel_rfl) ⟨⟨_, rfl, ?_⟩, trivial⟩ | refine xh_step (listed := [true, true, true, true, true, true, false, false, false, false]) (i := 6) (is := []) (by kernel_rfl) ⟨⟨_, rfl, ?_⟩, trivial⟩ | (apply xw_first (listed := [true, true, true, true, true, true, true, false, false, false]) 7 rfl (by kernel_rfl); (focus (first | exact P_ixI rfl rfl rfl KSl.h (by omega))); (focus exact rfl)) | refine a_seq ?_ | refine a_skip ?_ | refine a_ret ?_ | refine a_region ?_ | refine l_nil ?_ | ((first | apply w_q); (focus (first | exact Q_assign (by conv => lhs; whnf) | exact Q_ld_ints rfl (by omega) KSc.h)); (focus exact rfl)) | (refine a_cond rfl ?_ ?_ <;> (intro h; (try (have hp := of_decide_eq_true h)); (try (have hp := of_decide_eq_false h)); (try contradiction); (try (exfalso; omega)))) | ((refine w_callV (.inl ⟨rfl, rfl⟩) (k2) ?_ (by first | (dsimp only [AV.sh, AV.shl, sh_ints, sh_rows, sh_pairs, sh_ords]; done) | exact rfl) rfl ?_; rotate_left 0; (focus ((repeat' (first | exact trivial | exact Vs.val _ | refine ⟨?_, ?_⟩)); done)); rotate_left 1; all_goals (try (skip)))) | ((refine w_callV (.inl ⟨rfl, rfl⟩) (k3) ?_ (by first | (dsimp only [AV.sh, AV.shl, sh_ints, sh_rows, sh_pairs, sh_ords]; done) | exact rfl) rfl ?_; rotate_left 0; (focus ((repeat' (first | exact trivial | exact Vs.val _ | refine ⟨?_, ?_⟩)); done)); rotate_left 1; all_goals (try (skip)))) | (((first | apply w_q); (focus (refine Q_call (.inl ⟨rfl, rfl⟩) (k1) ?_; ((repeat' (first | exact trivial | exact vwR rfl | exact vwRL rfl | exact Vw.ro _ | refine Vw.agg' ?_ | refine ⟨?_, ?_⟩ )); done))); (focus exact rfl))))); (try all_goals (try show retA _ _ _ _ _ _ _))
    all_goals first
      | (exfalso; simp_all; done)
      | (refine ⟨[_], [], ⟨resV_tmp (by conv => lhs; whnf), trivial⟩, VwOs.mk (by decide) trivial, ?_, rfl⟩; exact Vw.int rfl)
      | (refine ⟨[_], [], ⟨resV_tmp (by conv => lhs; whnf), trivial⟩, VwOs.mk (by decide) trivial, ?_, rfl⟩; exact .val _)
      | (all_goals trace_state); fail
end Go.Proofs.YtbgecpjlopdkfaaDoor
