import Derived.Test.YtkapohfnoflhlaaFq
set_option linter.unusedSimpArgs false
set_option linter.unusedVariables false
set_option linter.unusedSectionVars false
set_option maxRecDepth 20000
namespace Go.Proofs.Ytkapohfnoflhlaa
attribute [local irreducible] QOp aL aC qL
theorem mod_succ (x j : Nat) : x % 2 ^ (j + 1) = x % 2 ^ j + 2 ^ j * (x / 2 ^ j % 2) := by
  rw [Nat.pow_succ, Nat.mod_mul]
theorem Together_ac (a b : Nat) (ha : a < 2 ^ 20) (hb : b < 2 ^ 20) : AC Try.prog 31 [.val (.int .i64 a), .val (.int .i64 b)] [] (.val (.int .i64 ((a ||| b : Nat) : Int))) [] := by
  have hor : a ||| b < 2 ^ 20 := Nat.or_lt_two_pow ha hb
  refine AC.mk (n := 31) (fn := Try.f31) Try.func31 (by kernel_rfl) rfl rfl rfl rfl (fun cx => ?_); dsimp only [argv, Nat.reduceAdd]
  (repeat' (first | refine a_seq ?_ | refine a_block ?_ | refine a_skip ?_ | refine a_ret ?_ | refine a_exit ?_ | refine a_region ?_ | refine l_nil ?_ | (apply w_q; (focus (first | exact Q_move (by conv => lhs; whnf) | exact Q_assign (by conv => lhs; whnf) | exact Q_gtr rfl rfl | exact Q_eql rfl rfl | exact Q_eqlB rfl rfl KBo.h | exact Q_add rfl rfl (by omega) | exact Q_rem2 rfl rfl | exact Q_eqlP rfl rfl inferInstance | exact Q_pick_t rfl (by assumption) (by conv => lhs; whnf) | exact Q_pick_f rfl (by assumption) (by conv => lhs; whnf) | exact Q_pick_t rfl rfl (by conv => lhs; whnf) | exact Q_pick_f rfl rfl (by conv => lhs; whnf))); (focus exact rfl)) | (refine a_cond rfl ?_ ?_ <;> (intro h; (try (have hp := of_decide_eq_true h)); (try (have hp := of_decide_eq_false h)); (try contradiction); (try (exfalso; omega)))) | refine w_guard_u rfl rfl rfl ?_ | refine w_guard_y rfl rfl rfl (by first | assumption | rfl) ?_ | refine w_guard_n rfl rfl rfl (by first | assumption | rfl) ?_ | (refine w_guard rfl rfl rfl ?_ ?_ <;> (intro h; (try (have hp := of_decide_eq_true h)); (try (have hp := of_decide_eq_false h)); (try contradiction); (try (exfalso; omega)))))); (try all_goals (try show retA _ _ _ _ _ _ _))
  refine w_loop (X := Nat) [] (by simp only [keepv, getv_cons, Nat.reduceEqDiff, ↓reduceIte]; exact rfl) (fun j => [(0, .val (.int .i64 ((a / 2 ^ j : Nat) : Int))), (1, .val (.int .i64 ((b / 2 ^ j : Nat) : Int))), (5, .val (.int .i64 (((a ||| b) % 2 ^ j : Nat) : Int))), (6, .val (.int .i64 ((2 ^ j : Nat) : Int)))]) (fun j => []) (fun j => j ≤ 20) (fun j => 20 - j) (0) ([]) ?_ ?_ rfl ?_ <;> (try dsimp only [List.cons_append, List.nil_append])
  · exact Nat.zero_le _
  · rw [show (a ||| b) % 2 ^ 0 = 0 by rw [Nat.pow_zero, Nat.mod_one]]
    (refine St.le_mk rfl (VwOs.mk (by decide) ?_) ?_ <;> (repeat' (first | exact trivial | exact vwR rfl | exact Vw.val _ | exact Vw.ro _ | exact Vw.any _ | exact Vw.own _ _ rfl | exact Vw.ptr _ _ _ rfl | exact Vw.rpt _ _ | exact Vw.valro _ | exact Vw.nilro _ | exact Vw.rowro _ _ _ _ rfl (by decide) | (refine Vw.int' ?_; first | rfl | omega | (simp; done)) | (refine Vw.bool' ?_; first | rfl | (simp; done)) | refine Vw.agg' ?_ | refine Vw.tup' ?_ | refine Vw.clo' ?_ | exact VwO.row _ _ _ | refine VwO.box' ?_ | exact VwO.gone _ | exact VwO.mp _ | exact VwO.mat _ _ _ | refine ⟨⟨_, rfl, ?_⟩, ?_⟩ | refine ⟨?_, ?_⟩ )))
  rintro j hj
  have h1 : a / 2 ^ j ≤ 9223372036854775807 := Nat.le_trans (Nat.div_le_self _ _) (by omega)
  have h2 : b / 2 ^ j ≤ 9223372036854775807 := Nat.le_trans (Nat.div_le_self _ _) (by omega)
  have h3 : 2 ^ j ≤ 2 ^ 20 := Nat.pow_le_pow_right (by decide) hj
  have h4 : (a ||| b) % 2 ^ j < 2 ^ 20 := Nat.lt_of_le_of_lt (Nat.mod_le _ _) hor
  have key : (a ||| b) / 2 ^ j % 2 = if a / 2 ^ j % 2 = 1 ∨ b / 2 ^ j % 2 = 1 then 1 else 0 := by
    have e := Nat.testBit_or a b j
    rw [Nat.testBit_eq_decide_div_mod_eq, Nat.testBit_eq_decide_div_mod_eq, Nat.testBit_eq_decide_div_mod_eq] at e
    have := Nat.mod_two_eq_zero_or_one ((a ||| b) / 2 ^ j)
    split
    · rename_i h
      have : decide ((a ||| b) / 2 ^ j % 2 = 1) = true := by rw [e]; simpa using h
      simpa using this
    · rename_i h
      have : decide ((a ||| b) / 2 ^ j % 2 = 1) = false := by rw [e]; simpa using h
      have := of_decide_eq_false this
      omega
  have hne : ¬ j < 20 → a / 2 ^ j = 0 ∧ b / 2 ^ j = 0 := fun h => by
    obtain rfl : j = 20 := by omega
    exact ⟨Nat.div_eq_of_lt ha, Nat.div_eq_of_lt hb⟩
  have hz : a / 2 ^ j = 0 → b / 2 ^ j = 0 → (a ||| b) % 2 ^ j = a ||| b := fun e1 e2 => by
    have hpos : 0 < 2 ^ j := Nat.pow_pos (by decide)
    refine Nat.mod_eq_of_lt (Nat.or_lt_two_pow ?_ ?_)
    · rcases (Nat.div_eq_zero_iff).1 e1 with h6 | h6
      · omega
      · exact h6
    · rcases (Nat.div_eq_zero_iff).1 e2 with h6 | h6
      · omega
      · exact h6
  generalize hqa : a / 2 ^ j = qa at *
  generalize hqb : b / 2 ^ j = qb at *
  generalize hqo : (a ||| b) % 2 ^ j = qo at *
  (repeat' (first | refine a_seq ?_ | refine a_block ?_ | refine a_skip ?_ | refine a_ret ?_ | refine a_exit ?_ | refine a_region ?_ | refine l_nil ?_ | (apply w_q; (focus (first | exact Q_move (by conv => lhs; whnf) | exact Q_assign (by conv => lhs; whnf) | exact Q_gtr rfl rfl | exact Q_eql rfl rfl | exact Q_eqlB rfl rfl KBo.h | exact Q_add rfl rfl (by omega) | exact Q_rem2 rfl rfl | exact Q_eqlP rfl rfl inferInstance | exact Q_pick_t rfl (by assumption) (by conv => lhs; whnf) | exact Q_pick_f rfl (by assumption) (by conv => lhs; whnf) | exact Q_pick_t rfl rfl (by conv => lhs; whnf) | exact Q_pick_f rfl rfl (by conv => lhs; whnf))); (focus exact rfl)) | (refine a_cond rfl ?_ ?_ <;> (intro h; (try (have hp := of_decide_eq_true h)); (try (have hp := of_decide_eq_false h)); (try contradiction); (try (exfalso; omega)))) | refine w_guard_u rfl rfl rfl ?_ | refine w_guard_y rfl rfl rfl (by first | assumption | rfl) ?_ | refine w_guard_n rfl rfl rfl (by first | assumption | rfl) ?_ | (refine w_guard rfl rfl rfl ?_ ?_ <;> (intro h; (try (have hp := of_decide_eq_true h)); (try (have hp := of_decide_eq_false h)); (try contradiction); (try (exfalso; omega)))) | (((first | apply w_q | apply w_qq); (focus exact Q_quo2 rfl rfl h1); (focus exact rfl))) | (((first | apply w_q | apply w_qq); (focus exact Q_quo2 rfl rfl h2); (focus exact rfl))) | (((first | apply w_q | apply w_qq); (focus exact Q_mul rfl rfl (by omega)); (focus exact rfl))) | (((first | apply w_q | apply w_qq); (focus exact Q_addN rfl rfl (by omega)); (focus exact rfl))))); (try all_goals (try show retA _ _ _ _ _ _ _))
  all_goals (try (refine ⟨[_], [], ⟨resV_tmp (by conv => lhs; whnf), trivial⟩, VwOs.mk (by decide) trivial, ?_, rfl⟩; rw [hz (by omega) (by omega)]; (repeat' (first | exact trivial | exact vwR rfl | exact vwRL rfl | exact Vw.val _ | exact Vw.ro _ | exact Vw.any _ | exact Vw.valro _ | exact Vw.own _ _ rfl | exact Vw.ptr _ _ _ rfl | exact Vw.rpt _ _ | exact Vw.nilro _ | exact Vw.rowro _ _ _ _ rfl (by decide) | exact Vw.rowro2 rfl (by decide) (by with_unfolding_all exact rfl) | refine Vw.agg' ?_ | refine Vw.tup' ?_ | refine Vw.clo' ?_ | refine Vw.boxrpt' rfl (by decide) ?_ | exact Nat.le_of_ble_eq_true rfl | refine ⟨?_, ?_⟩ )); done))
  all_goals
    refine ⟨j + 1, [], ?_, ?_, ?_, rfl⟩ <;> (try dsimp only)
    · omega
    · omega
    · rw [mod_succ, hqo, key, ← half_pow a, ← half_pow b, hqa, hqb, Nat.pow_succ]
      first | rw [if_pos (by omega)] | rw [if_neg (by omega)]
      (refine St.le_mk rfl (VwOs.mk (by decide) ?_) ?_ <;> (repeat' (first | exact trivial | exact vwR rfl | exact Vw.val _ | exact Vw.ro _ | exact Vw.any _ | exact Vw.own _ _ rfl | exact Vw.ptr _ _ _ rfl | exact Vw.rpt _ _ | exact Vw.valro _ | exact Vw.nilro _ | exact Vw.rowro _ _ _ _ rfl (by decide) | (refine Vw.int' ?_; first | rfl | omega | (simp; done)) | (refine Vw.bool' ?_; first | rfl | (simp; done)) | refine Vw.agg' ?_ | refine Vw.tup' ?_ | refine Vw.clo' ?_ | exact VwO.row _ _ _ | refine VwO.box' ?_ | exact VwO.gone _ | exact VwO.mp _ | exact VwO.mat _ _ _ | refine ⟨⟨_, rfl, ?_⟩, ?_⟩ | refine ⟨?_, ?_⟩ )))
end Go.Proofs.Ytkapohfnoflhlaa
