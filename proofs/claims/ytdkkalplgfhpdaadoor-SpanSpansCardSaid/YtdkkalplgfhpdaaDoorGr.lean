import Derived.Test.YtdkkalplgfhpdaaDoorFb
import Derived.Test.YtdkkalplgfhpdaaDoorEngZc
set_option linter.unusedSimpArgs false
set_option linter.unusedVariables false
set_option linter.unusedSectionVars false
set_option maxRecDepth 20000
namespace Go.Proofs.YtdkkalplgfhpdaaDoor
attribute [local irreducible] QOp aL aC qL
/-- How many of the first k points a set has. -/
def pcTo (x : Nat) : Nat → Nat
  | 0 => 0
  | k + 1 => pcTo x k + x / 2 ^ k % 2
theorem pcTo_le (x : Nat) : ∀ k, pcTo x k ≤ k
  | 0 => Nat.le_refl 0
  | k + 1 => by
    have := pcTo_le x k
    have := Nat.mod_lt (x / 2 ^ k) (show 0 < 2 by decide)
    rw [pcTo]; omega
theorem pcTo_stay {x j : Nat} (h : x / 2 ^ j = 0) : ∀ d, pcTo x (j + d) = pcTo x j
  | 0 => rfl
  | d + 1 => by
    have : x / 2 ^ (j + d) = 0 := by rw [Nat.pow_add, ← Nat.div_div_eq_div_mul, h, Nat.zero_div]
    show pcTo x (j + d) + x / 2 ^ (j + d) % 2 = _
    rw [pcTo_stay h d, this, Nat.zero_mod, Nat.add_zero]
theorem Size_ac (x k : Nat) (hx : x < 2 ^ k) (hk : k ≤ 62) : AC Tryd.prog 73 [.val (.int .i64 x)] [] (.val (.int .i64 (pcTo x k : Nat))) [] := by
  have hx2 : x < 2 ^ 62 := Nat.lt_of_lt_of_le hx (Nat.pow_le_pow_right (by decide) hk)
  refine AC.mk (n := 13) (fn := Tryd.f73) Tryd.func73 (by kernel_rfl) rfl rfl rfl rfl (fun cx => ?_); dsimp only [argv, Nat.reduceAdd]
  (repeat' (first | refine a_seq ?_ | refine a_block ?_ | refine a_skip ?_ | refine a_ret ?_ | refine a_exit ?_ | refine a_region ?_ | refine l_nil ?_ | (apply w_q; (focus (first | exact Q_move (by conv => lhs; whnf) | exact Q_assign (by conv => lhs; whnf) | exact Q_gtr rfl rfl | exact Q_add rfl rfl (by omega) | exact Q_rem2 rfl rfl)); (focus exact rfl)) | (refine a_cond rfl ?_ ?_ <;> (intro h; (try (have hp := of_decide_eq_true h)); (try (have hp := of_decide_eq_false h)); (try contradiction); (try (exfalso; omega)))))); (try all_goals (try show retA _ _ _ _ _ _ _))
  refine w_loop (X := Nat) [] (by simp only [keepv, getv_cons, Nat.reduceEqDiff, ↓reduceIte]; exact rfl) (fun j => [(0, .val (.int .i64 (x / 2 ^ j : Nat))), (3, .val (.int .i64 (pcTo x j : Nat)))]) (fun _ => []) (fun j => j ≤ k) (fun j => k - j) (0) ([]) ?_ ?_ rfl ?_ <;> (try dsimp only [List.cons_append, List.nil_append])
  · exact Nat.zero_le _
  · rw [show x / 2 ^ 0 = x by rw [Nat.pow_zero, Nat.div_one]]
    (refine St.le_mk rfl (VwOs.mk (by decide) ?_) ?_ <;> (repeat' (first | exact trivial | exact vwR rfl | exact Vw.val _ | exact Vw.ro _ | exact Vw.any _ | exact Vw.own _ _ rfl | exact Vw.ptr _ _ _ rfl | exact Vw.rpt _ _ | exact Vw.valro _ | exact Vw.nilro _ | exact Vw.rowro _ _ _ _ rfl (by decide) | (refine Vw.int' ?_; first | rfl | omega | (simp; done)) | (refine Vw.bool' ?_; first | rfl | (simp; done)) | refine Vw.agg' ?_ | refine Vw.tup' ?_ | refine Vw.clo' ?_ | exact VwO.row _ _ _ | refine VwO.box' ?_ | exact VwO.gone _ | exact VwO.mp _ | exact VwO.mat _ _ _ | refine ⟨⟨_, rfl, ?_⟩, ?_⟩ | refine ⟨?_, ?_⟩ )))
  rintro j hj
  have h1 : x / 2 ^ j ≤ 9223372036854775807 := Nat.le_trans (Nat.div_le_self _ _) (by omega)
  have h2 := pcTo_le x j
  have h3 : j = k → x / 2 ^ j = 0 := fun h => by rw [h]; exact Nat.div_eq_of_lt hx
  have h4 : x / 2 ^ j = 0 → pcTo x k = pcTo x j := fun h => by
    have := pcTo_stay h (k - j)
    rwa [show j + (k - j) = k by omega] at this
  have h5 : pcTo x (j + 1) = pcTo x j + x / 2 ^ j % 2 := rfl
  have h6 := Nat.mod_lt (x / 2 ^ j) (show 0 < 2 by decide)
  (repeat' (first | refine a_seq ?_ | refine a_block ?_ | refine a_skip ?_ | refine a_ret ?_ | refine a_exit ?_ | refine a_region ?_ | refine l_nil ?_ | (apply w_q; (focus (first | exact Q_move (by conv => lhs; whnf) | exact Q_assign (by conv => lhs; whnf) | exact Q_gtr rfl rfl | exact Q_add rfl rfl (by omega) | exact Q_rem2 rfl rfl)); (focus exact rfl)) | (refine a_cond rfl ?_ ?_ <;> (intro h; (try (have hp := of_decide_eq_true h)); (try (have hp := of_decide_eq_false h)); (try contradiction); (try (exfalso; omega)))) | (((first | apply w_q | apply w_qq); (focus exact Q_quo2 rfl rfl h1); (focus exact rfl))) | (((first | apply w_q | apply w_qq); (focus exact Q_addN rfl rfl (by omega)); (focus exact rfl))))); (try all_goals (try show retA _ _ _ _ _ _ _))
  · have hjk : j < k := by
      by_cases h : j = k
      · have := h3 h; omega
      · omega
    refine ⟨j + 1, [], ?_, ?_, ?_, rfl⟩ <;> (try dsimp only)
    · omega
    · omega
    · rw [half_pow, h5]
      (refine St.le_mk rfl (VwOs.mk (by decide) ?_) ?_ <;> (repeat' (first | exact trivial | exact vwR rfl | exact Vw.val _ | exact Vw.ro _ | exact Vw.any _ | exact Vw.own _ _ rfl | exact Vw.ptr _ _ _ rfl | exact Vw.rpt _ _ | exact Vw.valro _ | exact Vw.nilro _ | exact Vw.rowro _ _ _ _ rfl (by decide) | (refine Vw.int' ?_; first | rfl | omega | (simp; done)) | (refine Vw.bool' ?_; first | rfl | (simp; done)) | refine Vw.agg' ?_ | refine Vw.tup' ?_ | refine Vw.clo' ?_ | exact VwO.row _ _ _ | refine VwO.box' ?_ | exact VwO.gone _ | exact VwO.mp _ | exact VwO.mat _ _ _ | refine ⟨⟨_, rfl, ?_⟩, ?_⟩ | refine ⟨?_, ?_⟩ )))
  · refine ⟨[_], [], ⟨resV_tmp (by conv => lhs; whnf), trivial⟩, VwOs.mk (by decide) trivial, ?_, rfl⟩
    rw [h4 (by have : 0 ≤ ((x / 2 ^ j : Nat) : Int) := Int.natCast_nonneg _; omega)]
    (repeat' (first | exact trivial | exact vwR rfl | exact vwRL rfl | exact Vw.val _ | exact Vw.ro _ | exact Vw.any _ | exact Vw.valro _ | exact Vw.own _ _ rfl | exact Vw.ptr _ _ _ rfl | exact Vw.rpt _ _ | exact Vw.nilro _ | exact Vw.rowro _ _ _ _ rfl (by decide) | exact Vw.rowro2 rfl (by decide) (by with_unfolding_all exact rfl) | refine Vw.agg' ?_ | refine Vw.tup' ?_ | refine Vw.clo' ?_ | refine Vw.boxrpt' rfl (by decide) ?_ | exact Nat.le_of_ble_eq_true rfl | refine ⟨?_, ?_⟩ ))
def oc1 (x : Nat) : Nat := ((x / 2 ^ (1 : Int).toNat % 18446744073709551616 &&& (6148914691236517205 : Int).toNat) + (x % 18446744073709551616 &&& (6148914691236517205 : Int).toNat)) % 18446744073709551616
def oc2 (x : Nat) : Nat := ((x / 2 ^ (2 : Int).toNat % 18446744073709551616 &&& (3689348814741910323 : Int).toNat) + (x % 18446744073709551616 &&& (3689348814741910323 : Int).toNat)) % 18446744073709551616
def oc3 (x : Nat) : Nat := (x / 2 ^ (4 : Int).toNat + x) % 18446744073709551616 % 18446744073709551616 &&& (1085102592571150095 : Int).toNat
def oc4 (x : Nat) : Nat := (x + x / 2 ^ (8 : Int).toNat) % 18446744073709551616
def oc5 (x : Nat) : Nat := (x + x / 2 ^ (16 : Int).toNat) % 18446744073709551616
def oc6 (x : Nat) : Nat := (x + x / 2 ^ (32 : Int).toNat) % 18446744073709551616
def ocn (x : Nat) : Nat := oc6 (oc5 (oc4 (oc3 (oc2 (oc1 x)))))
end Go.Proofs.YtdkkalplgfhpdaaDoor
