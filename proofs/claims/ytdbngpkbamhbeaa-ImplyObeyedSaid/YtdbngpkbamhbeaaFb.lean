import Derived.Test.YtdbngpkbamhbeaaTypes
set_option linter.unusedSimpArgs false
set_option linter.unusedVariables false
set_option linter.unusedSectionVars false
set_option maxRecDepth 20000
namespace Go.Proofs.Ytdbngpkbamhbeaa
attribute [local irreducible] QOp aL aC qL
theorem bit_dec (x a : Nat) : decide (((x / 2 ^ a % 2 : Nat) : Int) = 1) = x.testBit a := by
  rw [Nat.testBit_eq_decide_div_mod_eq]
  congr 1
  apply propext
  omega

theorem half_pow (s j : Nat) : s / 2 ^ j / 2 = s / 2 ^ (j + 1) := by
  rw [Nat.div_div_eq_div_mul, Nat.pow_succ]

theorem In_ac (s i : Nat) (hs : s ≤ 9223372036854775807) (hi : i ≤ 9223372036854775807) : AC Try.prog 67 [.val (.int .i64 s), .val (.int .i64 i)] [] (.val (.bool (s.testBit i))) [] := by
  refine AC.mk (n := 14) (fn := Try.f67) Try.func67 (by kernel_rfl) rfl rfl rfl rfl (fun cx => ?_); dsimp only [argv, Nat.reduceAdd]
  (repeat' (first | refine a_seq ?_ | refine a_block ?_ | refine a_skip ?_ | refine a_ret ?_ | refine a_exit ?_ | refine a_region ?_ | refine l_nil ?_ | (apply w_q; (focus (first | exact Q_move (by conv => lhs; whnf) | exact Q_assign (by conv => lhs; whnf) | exact Q_gtr rfl rfl | exact Q_eql rfl rfl | exact Q_eqlB rfl rfl KBo.h | exact Q_rem2 rfl rfl | exact Q_sub rfl rfl (by omega) | exact Q_eqlP rfl rfl inferInstance)); (focus exact rfl)) | (refine a_cond rfl ?_ ?_ <;> (intro h; (try (have hp := of_decide_eq_true h)); (try (have hp := of_decide_eq_false h)); (try contradiction); (try (exfalso; omega)))))); (try all_goals (try show retA _ _ _ _ _ _ _))
  refine a_loop (X := Nat) (fun j => ⟨14, [(0, .val (.int .i64 ((s / 2 ^ j : Nat) : Int))), (1, .val (.int .i64 ((i - j : Nat) : Int)))], []⟩) (fun j => j ≤ i) (fun j => i - j) 0 [] (Nat.zero_le _) ?_ rfl ?_
  · (refine St.le_mk rfl (VwOs.mk (by decide) ?_) ?_ <;> (repeat' (first | exact trivial | exact vwR rfl | exact Vw.val _ | exact Vw.ro _ | exact Vw.any _ | exact Vw.own _ _ rfl | exact Vw.ptr _ _ _ rfl | exact Vw.rpt _ _ | exact Vw.valro _ | exact Vw.nilro _ | exact Vw.rowro _ _ _ _ rfl (by decide) | (refine Vw.int' ?_; first | rfl | omega | (simp; done)) | (refine Vw.bool' ?_; first | rfl | (simp; done)) | refine Vw.agg' ?_ | refine Vw.tup' ?_ | refine Vw.clo' ?_ | exact VwO.row _ _ _ | refine VwO.box' ?_ | exact VwO.gone _ | exact VwO.mp _ | exact VwO.mat _ _ _ | refine ⟨⟨_, rfl, ?_⟩, ?_⟩ | refine ⟨?_, ?_⟩ )))
  · intro j hj
    have hq : s / 2 ^ j ≤ 9223372036854775807 := Nat.le_trans (Nat.div_le_self _ _) hs
    (repeat' (first | refine a_seq ?_ | refine a_block ?_ | refine a_skip ?_ | refine a_ret ?_ | refine a_exit ?_ | refine a_region ?_ | refine l_nil ?_ | (apply w_q; (focus (first | exact Q_move (by conv => lhs; whnf) | exact Q_assign (by conv => lhs; whnf) | exact Q_gtr rfl rfl | exact Q_eql rfl rfl | exact Q_eqlB rfl rfl KBo.h | exact Q_rem2 rfl rfl | exact Q_sub rfl rfl (by omega) | exact Q_eqlP rfl rfl inferInstance)); (focus exact rfl)) | (refine a_cond rfl ?_ ?_ <;> (intro h; (try (have hp := of_decide_eq_true h)); (try (have hp := of_decide_eq_false h)); (try contradiction); (try (exfalso; omega)))) | (((first | apply w_q | apply w_qq); (focus exact Q_quo2 rfl rfl hq); (focus exact rfl))))); (try all_goals (try show retA _ _ _ _ _ _ _))
    · refine ⟨j + 1, [], ?_, ?_, ?_, rfl⟩ <;> (try dsimp only)
      · omega
      · omega
      · rw [half_pow]
        (refine St.le_mk rfl (VwOs.mk (by decide) ?_) ?_ <;> (repeat' (first | exact trivial | exact vwR rfl | exact Vw.val _ | exact Vw.ro _ | exact Vw.any _ | exact Vw.own _ _ rfl | exact Vw.ptr _ _ _ rfl | exact Vw.rpt _ _ | exact Vw.valro _ | exact Vw.nilro _ | exact Vw.rowro _ _ _ _ rfl (by decide) | (refine Vw.int' ?_; first | rfl | omega | (simp; done)) | (refine Vw.bool' ?_; first | rfl | (simp; done)) | refine Vw.agg' ?_ | refine Vw.tup' ?_ | refine Vw.clo' ?_ | exact VwO.row _ _ _ | refine VwO.box' ?_ | exact VwO.gone _ | exact VwO.mp _ | exact VwO.mat _ _ _ | refine ⟨⟨_, rfl, ?_⟩, ?_⟩ | refine ⟨?_, ?_⟩ )))
    · refine ⟨[_], [], ⟨resV_tmp (by conv => lhs; whnf), trivial⟩, VwOs.mk (by decide) trivial, ?_, rfl⟩
      have : i = j := by omega
      subst this
      exact Vw.bool' (bit_dec _ _)

theorem Bit_ac (i : Nat) (h : i < 62) : AC Try.prog 20 [.val (.int .i64 i)] [] (.val (.int .i64 ((2 ^ i : Nat) : Int))) [] := by
  refine AC.mk (n := 11) (fn := Try.f20) Try.func20 (by kernel_rfl) rfl rfl rfl rfl (fun cx => ?_); dsimp only [argv, Nat.reduceAdd]
  (repeat' (first | refine a_seq ?_ | refine a_block ?_ | refine a_skip ?_ | refine a_ret ?_ | refine a_exit ?_ | refine a_region ?_ | refine l_nil ?_ | (apply w_q; (focus (first | exact Q_move (by conv => lhs; whnf) | exact Q_assign (by conv => lhs; whnf) | exact Q_gtr rfl rfl | exact Q_sub rfl rfl (by omega))); (focus exact rfl)) | (refine a_cond rfl ?_ ?_ <;> (intro h; (try (have hp := of_decide_eq_true h)); (try (have hp := of_decide_eq_false h)); (try contradiction); (try (exfalso; omega)))))); (try all_goals (try show retA _ _ _ _ _ _ _))
  refine a_loop (X := Nat) (fun j => ⟨11, [(0, .val (.int .i64 ((i - j : Nat) : Int))), (3, .val (.int .i64 ((2 ^ j : Nat) : Int)))], []⟩) (fun j => j ≤ i) (fun j => i - j) 0 [] (Nat.zero_le _) ?_ rfl ?_
  · (refine St.le_mk rfl (VwOs.mk (by decide) ?_) ?_ <;> (repeat' (first | exact trivial | exact vwR rfl | exact Vw.val _ | exact Vw.ro _ | exact Vw.any _ | exact Vw.own _ _ rfl | exact Vw.ptr _ _ _ rfl | exact Vw.rpt _ _ | exact Vw.valro _ | exact Vw.nilro _ | exact Vw.rowro _ _ _ _ rfl (by decide) | (refine Vw.int' ?_; first | rfl | omega | (simp; done)) | (refine Vw.bool' ?_; first | rfl | (simp; done)) | refine Vw.agg' ?_ | refine Vw.tup' ?_ | refine Vw.clo' ?_ | exact VwO.row _ _ _ | refine VwO.box' ?_ | exact VwO.gone _ | exact VwO.mp _ | exact VwO.mat _ _ _ | refine ⟨⟨_, rfl, ?_⟩, ?_⟩ | refine ⟨?_, ?_⟩ )))
  · intro j hj
    have hq : 2 ^ j ≤ 2 ^ 61 := Nat.pow_le_pow_right (by decide) (by omega)
    (repeat' (first | refine a_seq ?_ | refine a_block ?_ | refine a_skip ?_ | refine a_ret ?_ | refine a_exit ?_ | refine a_region ?_ | refine l_nil ?_ | (apply w_q; (focus (first | exact Q_move (by conv => lhs; whnf) | exact Q_assign (by conv => lhs; whnf) | exact Q_gtr rfl rfl | exact Q_sub rfl rfl (by omega))); (focus exact rfl)) | (refine a_cond rfl ?_ ?_ <;> (intro h; (try (have hp := of_decide_eq_true h)); (try (have hp := of_decide_eq_false h)); (try contradiction); (try (exfalso; omega)))) | (((first | apply w_q | apply w_qq); (focus exact Q_mul rfl rfl (by generalize 2 ^ j = q at *; omega)); (focus exact rfl))))); (try all_goals (try show retA _ _ _ _ _ _ _))
    · refine ⟨j + 1, [], ?_, ?_, ?_, rfl⟩ <;> (try dsimp only)
      · omega
      · omega
      · rw [Nat.pow_succ]
        (refine St.le_mk rfl (VwOs.mk (by decide) ?_) ?_ <;> (repeat' (first | exact trivial | exact vwR rfl | exact Vw.val _ | exact Vw.ro _ | exact Vw.any _ | exact Vw.own _ _ rfl | exact Vw.ptr _ _ _ rfl | exact Vw.rpt _ _ | exact Vw.valro _ | exact Vw.nilro _ | exact Vw.rowro _ _ _ _ rfl (by decide) | (refine Vw.int' ?_; first | rfl | omega | (simp; done)) | (refine Vw.bool' ?_; first | rfl | (simp; done)) | refine Vw.agg' ?_ | refine Vw.tup' ?_ | refine Vw.clo' ?_ | exact VwO.row _ _ _ | refine VwO.box' ?_ | exact VwO.gone _ | exact VwO.mp _ | exact VwO.mat _ _ _ | refine ⟨⟨_, rfl, ?_⟩, ?_⟩ | refine ⟨?_, ?_⟩ )))
    · refine ⟨[_], [], ⟨resV_tmp (by conv => lhs; whnf), trivial⟩, VwOs.mk (by decide) trivial, ?_, rfl⟩
      have : i = j := by omega
      subst this
      exact Vw.val _
theorem ndiff_zero {a b : Nat} : ndiff a b = 0 ↔ ∀ i, a.testBit i = true → b.testBit i = true := by
  constructor
  · intro h i hi
    have h1 := testBit_ndiff a b i
    rw [h, Nat.zero_testBit, hi] at h1
    cases hb : b.testBit i
    · rw [hb] at h1; cases h1
    · rfl
  · intro h
    apply Nat.eq_of_testBit_eq
    intro i
    rw [testBit_ndiff, Nat.zero_testBit]
    cases ha : a.testBit i
    · rfl
    · rw [h i ha]; rfl

end Go.Proofs.Ytdbngpkbamhbeaa
