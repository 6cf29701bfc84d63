import Derived.Test.YtdbngpkbamhbeaaFb
import Derived.Test.YtdbngpkbamhbeaaEngZc
set_option linter.unusedSimpArgs false
set_option linter.unusedVariables false
set_option linter.unusedSectionVars false
set_option maxRecDepth 20000
namespace Go.Proofs.Ytdbngpkbamhbeaa
attribute [local irreducible] QOp aL aC qL
/-- How many of the first k points a set has. -/
def pcTo (x : Nat) : Nat → Nat
  | 0 => 0
  | k + 1 => pcTo x k + x / 2 ^ k % 2
def oc1 (x : Nat) : Nat := ((x / 2 ^ (1 : Int).toNat % 18446744073709551616 &&& (6148914691236517205 : Int).toNat) + (x % 18446744073709551616 &&& (6148914691236517205 : Int).toNat)) % 18446744073709551616
def oc2 (x : Nat) : Nat := ((x / 2 ^ (2 : Int).toNat % 18446744073709551616 &&& (3689348814741910323 : Int).toNat) + (x % 18446744073709551616 &&& (3689348814741910323 : Int).toNat)) % 18446744073709551616
def oc3 (x : Nat) : Nat := (x / 2 ^ (4 : Int).toNat + x) % 18446744073709551616 % 18446744073709551616 &&& (1085102592571150095 : Int).toNat
def oc4 (x : Nat) : Nat := (x + x / 2 ^ (8 : Int).toNat) % 18446744073709551616
def oc5 (x : Nat) : Nat := (x + x / 2 ^ (16 : Int).toNat) % 18446744073709551616
def oc6 (x : Nat) : Nat := (x + x / 2 ^ (32 : Int).toNat) % 18446744073709551616
def ocn (x : Nat) : Nat := oc6 (oc5 (oc4 (oc3 (oc2 (oc1 x)))))
theorem ocn_all : ((List.range 1024).all fun x => decide (ocn x < 1024) && decide (ocn x &&& (127 : Int).toNat = pcTo x 10)) = true := by kernel_rfl
theorem ocn_at {x : Nat} (h : x < 1024) : ocn x < 1024 ∧ ocn x &&& (127 : Int).toNat = pcTo x 10 := by
  have := List.all_eq_true.1 ocn_all x (List.mem_range.2 h)
  simpa only [Bool.and_eq_true, decide_eq_true_eq] using this
theorem OnesCount64_ac (x : Nat) (hx : x < 1024) : AC Try.prog 117 [.val (.int .u64 x)] [] (.val (.int .i64 (pcTo x 10 : Nat))) [] := by
  obtain ⟨h1, h2⟩ := ocn_at hx
  refine AC.mk (n := 35) (fn := Try.f117) Try.func117 (by kernel_rfl) rfl rfl rfl rfl (fun cx => ?_); dsimp only [argv, Nat.reduceAdd]
  (repeat' (first | refine a_seq ?_ | refine a_block ?_ | refine a_skip ?_ | refine a_ret ?_ | refine a_exit ?_ | refine a_region ?_ | refine l_nil ?_ | (apply w_q; (focus (first | exact Q_move (by conv => lhs; whnf) | exact Q_assign (by conv => lhs; whnf) | exact Q_add rfl rfl (by omega) | exact Q_shrN rfl rfl (by omega) | exact Q_and1 rfl rfl)); (focus exact rfl)) | (((first | apply w_q | apply w_qq); (focus exact Q_ushrC rfl rfl (by omega)); (focus exact rfl))) | (((first | apply w_q | apply w_qq); (focus exact Q_uandC rfl rfl (by omega)); (focus exact rfl))) | (((first | apply w_q | apply w_qq); (focus exact Q_uadd rfl rfl); (focus exact rfl))) | (((first | apply w_q | apply w_qq); (focus exact Q_conv (n := ((ocn x : Nat) : Int)) rfl Try.underlying136 Try.underlying3 (IntWalk.i64_in _ (by omega))); (focus exact rfl))) | (((first | apply w_q | apply w_qq); (focus exact Q_andC rfl rfl (by omega) (by omega)); (focus exact rfl))))); (try all_goals (try show retA _ _ _ _ _ _ _))
  refine ⟨[_], [], ⟨resV_tmp (by conv => lhs; whnf), trivial⟩, VwOs.mk (by decide) trivial, ?_, rfl⟩
  rw [h2]
  (repeat' (first | exact trivial | exact vwR rfl | exact vwRL rfl | exact Vw.val _ | exact Vw.ro _ | exact Vw.any _ | exact Vw.valro _ | exact Vw.own _ _ rfl | exact Vw.ptr _ _ _ rfl | exact Vw.rpt _ _ | exact Vw.nilro _ | exact Vw.rowro _ _ _ _ rfl (by decide) | exact Vw.rowro2 rfl (by decide) (by with_unfolding_all exact rfl) | refine Vw.agg' ?_ | refine Vw.tup' ?_ | refine Vw.clo' ?_ | refine Vw.boxrpt' rfl (by decide) ?_ | exact Nat.le_of_ble_eq_true rfl | refine ⟨?_, ?_⟩ ))
theorem OnesCount_ac (x : Nat) (hx : x < 1024) : AC Try.prog 96 [.val (.int .u64 x)] [] (.val (.int .i64 (pcTo x 10 : Nat))) [] := by
  refine AC.mk (n := 8) (fn := Try.f96) Try.func96 (by kernel_rfl) rfl rfl rfl rfl (fun cx => ?_); dsimp only [argv, Nat.reduceAdd]
  (repeat' (first | refine a_seq ?_ | refine a_block ?_ | refine a_skip ?_ | refine a_ret ?_ | refine a_exit ?_ | refine a_region ?_ | refine l_nil ?_ | (apply w_q; (focus (first | exact Q_move (by conv => lhs; whnf) | exact Q_assign (by conv => lhs; whnf))); (focus exact rfl)) | (refine a_cond rfl ?_ ?_ <;> (intro h; (try (have hp := of_decide_eq_true h)); (try (have hp := of_decide_eq_false h)); (try contradiction); (try (exfalso; omega)))) | (((first | apply w_q | apply w_qq); (focus (refine Q_call (.inl ⟨rfl, rfl⟩) (OnesCount64_ac x hx) ?_; ((repeat' (first | exact trivial | exact vwR rfl | exact vwRL rfl | exact Vw.val _ | exact Vw.ro _ | exact Vw.any _ | exact Vw.valro _ | exact Vw.own _ _ rfl | exact Vw.ptr _ _ _ rfl | exact Vw.rpt _ _ | exact Vw.nilro _ | exact Vw.rowro _ _ _ _ rfl (by decide) | exact Vw.rowro2 rfl (by decide) (by with_unfolding_all exact rfl) | refine Vw.agg' ?_ | refine Vw.tup' ?_ | refine Vw.clo' ?_ | refine Vw.boxrpt' rfl (by decide) ?_ | exact Nat.le_of_ble_eq_true rfl | refine ⟨?_, ?_⟩ )); done))); (focus exact rfl))))); (try all_goals (try show retA _ _ _ _ _ _ _))
  refine ⟨[_], [], ⟨resV_tmp (by conv => lhs; whnf), trivial⟩, VwOs.mk (by decide) trivial, ?_, rfl⟩
  (repeat' (first | exact trivial | exact vwR rfl | exact vwRL rfl | exact Vw.val _ | exact Vw.ro _ | exact Vw.any _ | exact Vw.valro _ | exact Vw.own _ _ rfl | exact Vw.ptr _ _ _ rfl | exact Vw.rpt _ _ | exact Vw.nilro _ | exact Vw.rowro _ _ _ _ rfl (by decide) | exact Vw.rowro2 rfl (by decide) (by with_unfolding_all exact rfl) | refine Vw.agg' ?_ | refine Vw.tup' ?_ | refine Vw.clo' ?_ | refine Vw.boxrpt' rfl (by decide) ?_ | exact Nat.le_of_ble_eq_true rfl | refine ⟨?_, ?_⟩ ))
end Go.Proofs.Ytdbngpkbamhbeaa
