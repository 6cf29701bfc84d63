import Derived.Test.YtbgecpjlopdkfaaDoorTypes
set_option linter.unusedSimpArgs false
set_option linter.unusedVariables false
set_option linter.unusedSectionVars false
set_option maxRecDepth 20000
namespace Go.Proofs.YtbgecpjlopdkfaaDoor
attribute [local irreducible] QOp aL aC qL
theorem bit_dec (x a : Nat) : decide (((x / 2 ^ a % 2 : Nat) : Int) = 1) = x.testBit a := by
  rw [Nat.testBit_eq_decide_div_mod_eq]
  congr 1
  apply propext
  omega

theorem Lower_ac (N : Int) (l : List Nat) (a b : Nat) (hb : b < l.length) (ha : a < 64) :
    AC Tryd.prog 99 [.agg [.val (.int .i64 N), ints (nl l)], .val (.int .i64 a), .val (.int .i64 b)] [] (.val (.bool ((l.getD b 0).testBit a))) [] := by
  refine AC.mk (n := 16) (fn := Tryd.f99) Tryd.func99 (by kernel_rfl) rfl rfl rfl rfl (fun cx => ?_); dsimp only [argv, Nat.reduceAdd]
  (repeat' (first | refine a_seq ?_ | refine a_ret ?_ | refine a_region ?_ | refine l_nil ?_ | (apply w_q; (focus (first | exact Q_move (by conv => lhs; whnf) | exact Q_assign (by conv => lhs; whnf) | exact Q_fieldAddr_ptr rfl KFl.h | exact Q_load_ptr rfl rfl rfl KSc.h | exact Q_eql rfl rfl | exact Q_shrN rfl rfl (by omega) | exact Q_and1 rfl rfl | exact Q_ix_nats rfl rfl rfl KSl.h (by omega) | exact Q_ld_nats rfl (by omega) KSc.h)); (focus exact rfl)) | refine w_box rfl rfl (by first|(dsimp only[obA,obB,obD,obE,obF,obG,obI,List.map,AO.sh,AV.sh,AV.shl,Nat.reduceAdd];done)|exact rfl) (by first|(dsimp only[obA,obB,obD,obE,obF,obG,obI,List.map,AO.sh,AV.sh,AV.shl,Nat.reduceAdd];done)|exact rfl) rfl ?_)); (try all_goals (try show retA _ _ _ _ _ _ _))
  refine ⟨[_], [], ⟨resV_tmp (by conv => lhs; whnf), trivial⟩, VwOs.mk (by decide) trivial, ?_, rfl⟩
  exact Vw.bool' (bit_dec _ _)

theorem half_pow (s j : Nat) : s / 2 ^ j / 2 = s / 2 ^ (j + 1) := by
  rw [Nat.div_div_eq_div_mul, Nat.pow_succ]

theorem In_ac (s i : Nat) (hs : s ≤ 9223372036854775807) (hi : i ≤ 9223372036854775807) : AC Tryd.prog 51 [.val (.int .i64 s), .val (.int .i64 i)] [] (.val (.bool (s.testBit i))) [] := by
  refine AC.mk (n := 14) (fn := Tryd.f51) Tryd.func51 (by kernel_rfl) rfl rfl rfl rfl (fun cx => ?_); dsimp only [argv, Nat.reduceAdd]
  (repeat' (first | refine a_seq ?_ | refine a_block ?_ | refine a_region ?_ | refine l_nil ?_ | (apply w_q; (focus (first | exact Q_assign (by conv => lhs; whnf))); (focus exact rfl)))); (try all_goals (try show retA _ _ _ _ _ _ _))
  refine a_loop (X := Nat) (fun j => ⟨14, [(0, .val (.int .i64 ((s / 2 ^ j : Nat) : Int))), (1, .val (.int .i64 ((i - j : Nat) : Int)))], []⟩) (fun j => j ≤ i) (fun j => i - j) 0 [] (Nat.zero_le _) ?_ rfl ?_
  · (refine St.le_mk rfl (VwOs.mk (by decide) ?_) ?_ <;> (repeat' (first | exact trivial | exact vwR rfl | (refine Vw.int' ?_; first | rfl | omega | (simp; done)) | refine ⟨?_, ?_⟩ )))
  · intro j hj
    have hq : s / 2 ^ j ≤ 9223372036854775807 := Nat.le_trans (Nat.div_le_self _ _) hs
    (repeat' (first | refine a_seq ?_ | refine a_block ?_ | refine a_skip ?_ | refine a_ret ?_ | refine a_exit ?_ | refine a_region ?_ | refine l_nil ?_ | (apply w_q; (focus (first | exact Q_move (by conv => lhs; whnf) | exact Q_assign (by conv => lhs; whnf) | exact Q_gtr rfl rfl | exact Q_eql rfl rfl | exact Q_rem2 rfl rfl | exact Q_sub rfl rfl (by omega))); (focus exact rfl)) | (refine a_cond rfl ?_ ?_ <;> (intro h; (try (have hp := of_decide_eq_true h)); (try (have hp := of_decide_eq_false h)); (try contradiction); (try (exfalso; omega)))) | (((first | apply w_q); (focus exact Q_quo2 rfl rfl hq); (focus exact rfl))))); (try all_goals (try show retA _ _ _ _ _ _ _))
    · refine ⟨j + 1, [], ?_, ?_, ?_, rfl⟩ <;> (try dsimp only)
      · omega
      · omega
      · rw [half_pow]
        (refine St.le_mk rfl (VwOs.mk (by decide) ?_) ?_ <;> (repeat' (first | exact trivial | exact vwR rfl | (refine Vw.int' ?_; first | rfl | omega | (simp; done)) | refine ⟨?_, ?_⟩ )))
    · refine ⟨[_], [], ⟨resV_tmp (by conv => lhs; whnf), trivial⟩, VwOs.mk (by decide) trivial, ?_, rfl⟩
      have : i = j := by omega
      subst this
      exact Vw.bool' (bit_dec _ _)

theorem Less_ac (N : Int) (l : List Nat) (a b : Nat) (hb : b < l.length) (ha : a ≤ 9223372036854775807) (hl : ∀ x ∈ l, x ≤ 9223372036854775807) :
    AC Tryd.prog 55 [.agg [.val (.int .i64 N), ints (nl l)], .val (.int .i64 a), .val (.int .i64 b)] [] (.val (.bool ((l.getD b 0).testBit a))) [] := by
  have hx : l.getD b 0 ≤ 9223372036854775807 := hl _ (by rw [List.getD_eq_getElem?_getD, List.getElem?_eq_getElem hb]; exact List.getElem_mem _)
  refine AC.mk (n := 14) (fn := Tryd.f55) Tryd.func55 (by kernel_rfl) rfl rfl rfl rfl (fun cx => ?_); dsimp only [argv, Nat.reduceAdd]
  (repeat' (first | refine a_seq ?_ | refine a_ret ?_ | refine a_region ?_ | refine l_nil ?_ | (apply w_q; (focus (first | exact Q_move (by conv => lhs; whnf) | exact Q_assign (by conv => lhs; whnf) | exact Q_fieldAddr_ptr rfl KFl.h | exact Q_load_ptr rfl rfl rfl KSc.h | exact Q_ix_nats rfl rfl rfl KSl.h (by omega) | exact Q_ld_nats rfl (by omega) KSc.h)); (focus exact rfl)) | refine w_box rfl rfl (by first|(dsimp only[obA,obB,obD,obE,obF,obG,obI,List.map,AO.sh,AV.sh,AV.shl,Nat.reduceAdd];done)|exact rfl) (by first|(dsimp only[obA,obB,obD,obE,obF,obG,obI,List.map,AO.sh,AV.sh,AV.shl,Nat.reduceAdd];done)|exact rfl) rfl ?_ | (((first | apply w_q); (focus (refine Q_call (.inl ⟨rfl, rfl⟩) (In_ac _ _ hx ha) ?_; ((repeat' (first | exact vwRL rfl)); done))); (focus exact rfl))))); (try all_goals (try show retA _ _ _ _ _ _ _))
  refine ⟨[_], [], ⟨resV_tmp (by conv => lhs; whnf), trivial⟩, VwOs.mk (by decide) trivial, ?_, rfl⟩
  exact Vw.val _

theorem Bit_ac (i : Nat) (h : i < 62) : AC Tryd.prog 54 [.val (.int .i64 i)] [] (.val (.int .i64 ((2 ^ i : Nat) : Int))) [] := by
  refine AC.mk (n := 11) (fn := Tryd.f54) Tryd.func54 (by kernel_rfl) rfl rfl rfl rfl (fun cx => ?_); dsimp only [argv, Nat.reduceAdd]
  (repeat' (first | refine a_seq ?_ | refine a_block ?_ | refine a_region ?_ | refine l_nil ?_ | (apply w_q; (focus (first | exact Q_assign (by conv => lhs; whnf))); (focus exact rfl)))); (try all_goals (try show retA _ _ _ _ _ _ _))
  refine a_loop (X := Nat) (fun j => ⟨11, [(0, .val (.int .i64 ((i - j : Nat) : Int))), (3, .val (.int .i64 ((2 ^ j : Nat) : Int)))], []⟩) (fun j => j ≤ i) (fun j => i - j) 0 [] (Nat.zero_le _) ?_ rfl ?_
  · (refine St.le_mk rfl (VwOs.mk (by decide) ?_) ?_ <;> (repeat' (first | exact trivial | exact vwR rfl | refine ⟨?_, ?_⟩ )))
  · intro j hj
    have hq : 2 ^ j ≤ 2 ^ 61 := Nat.pow_le_pow_right (by decide) (by omega)
    (repeat' (first | refine a_seq ?_ | refine a_block ?_ | refine a_skip ?_ | refine a_ret ?_ | refine a_exit ?_ | refine a_region ?_ | refine l_nil ?_ | (apply w_q; (focus (first | exact Q_move (by conv => lhs; whnf) | exact Q_assign (by conv => lhs; whnf) | exact Q_gtr rfl rfl | exact Q_sub rfl rfl (by omega))); (focus exact rfl)) | (refine a_cond rfl ?_ ?_ <;> (intro h; (try (have hp := of_decide_eq_true h)); (try (have hp := of_decide_eq_false h)); (try contradiction); (try (exfalso; omega)))) | (((first | apply w_q); (focus exact Q_mul rfl rfl (by generalize 2 ^ j = q at *; omega)); (focus exact rfl))))); (try all_goals (try show retA _ _ _ _ _ _ _))
    · refine ⟨j + 1, [], ?_, ?_, ?_, rfl⟩ <;> (try dsimp only)
      · omega
      · omega
      · rw [Nat.pow_succ]
        (refine St.le_mk rfl (VwOs.mk (by decide) ?_) ?_ <;> (repeat' (first | exact trivial | exact vwR rfl | (refine Vw.int' ?_; first | rfl | omega | (simp; done)) | refine ⟨?_, ?_⟩ )))
    · refine ⟨[_], [], ⟨resV_tmp (by conv => lhs; whnf), trivial⟩, VwOs.mk (by decide) trivial, ?_, rfl⟩
      have : i = j := by omega
      subst this
      exact Vw.val _
theorem ndiff_zero {a b : Nat} : ndiff a b = 0 ↔ ∀ i, a.testBit i = true → b.testBit i = true := by
  constructor
  · intro h i hi
    have h1 := testBit_ndiff a b i
    rw [h, Nat.zero_testBit, hi] at h1
    cases hb : b.testBit i
    · rw [hb] at h1; cases h1
    · rfl
  · intro h
    apply Nat.eq_of_testBit_eq
    intro i
    rw [testBit_ndiff, Nat.zero_testBit]
    cases ha : a.testBit i
    · rfl
    · rw [h i ha]; rfl

end Go.Proofs.YtbgecpjlopdkfaaDoor
