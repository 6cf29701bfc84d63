import Derived.Test.YtlihpalpkdgclaaDoorFb
set_option linter.unusedSimpArgs false
set_option linter.unusedVariables false
set_option linter.unusedSectionVars false
set_option maxRecDepth 20000
namespace Go.Proofs.YtlihpalpkdgclaaDoor
attribute [local irreducible] QOp aL aC qL
def chsN (c : Int) (n : Nat) : Nat := (if c < 0 then -(c + 1) else c).toNat % n
theorem chs_lt {c : Int} {n : Nat} (hn : 0 < n) : chsN c n < n := Nat.mod_lt _ hn
theorem chs_ac (c : Int) (n : Nat) (hn : 0 < n) (hb : n ≤ 9223372036854775807) (hc : -9223372036854775808 ≤ c ∧ c ≤ 9223372036854775807) : AC Tryd.prog 17 [.val (.int .i64 c), .val (.int .i64 n)] [] (.val (.int .i64 (chsN c n : Nat))) [] := by
  have e : ((chsN c n : Nat) : Int) = (if c < 0 then -(c + 1) else c) % (n : Int) := by
    unfold chsN
    rw [Int.natCast_emod]
    congr 1
    split <;> omega
  rw [e]
  refine AC.mk (n := 13) (fn := Tryd.f17) Tryd.func17 (by kernel_rfl) rfl rfl rfl rfl (fun cx => ?_); dsimp only [argv, Nat.reduceAdd]
  (repeat' (first | refine a_seq ?_ | refine a_block ?_ | refine a_skip ?_ | refine a_ret ?_ | refine a_exit ?_ | refine a_region ?_ | refine l_nil ?_ | (apply w_q; (focus (first | exact Q_move (by conv => lhs; whnf) | exact Q_assign (by conv => lhs; whnf) | exact Q_lss rfl rfl | exact Q_add rfl rfl (by omega) | exact Q_rem2 rfl rfl | exact Q_neg rfl (by omega))); (focus exact rfl)) | (refine a_cond rfl ?_ ?_ <;> (intro h; (try (have hp := of_decide_eq_true h)); (try (have hp := of_decide_eq_false h)); (try contradiction); (try (exfalso; omega)))) | (((first | apply w_q | apply w_qq); (focus exact Q_add rfl rfl (by omega)); (focus exact rfl))) | (((first | apply w_q | apply w_qq); (focus exact Q_neg rfl (by omega)); (focus exact rfl))) | (((first | apply w_q | apply w_qq); (focus exact Q_rem rfl rfl (by omega)); (focus exact rfl))))); (try all_goals (try show retA _ _ _ _ _ _ _))
  · refine ⟨[_], [], ⟨resV_tmp (by conv => lhs; whnf), trivial⟩, VwOs.mk (by decide) trivial, ?_, rfl⟩
    rw [if_pos (by assumption)]
    exact Vw.int' (by first | rfl | (congr 1; omega))
  · refine ⟨[_], [], ⟨resV_tmp (by conv => lhs; whnf), trivial⟩, VwOs.mk (by decide) trivial, ?_, rfl⟩
    rw [if_neg (by assumption)]
    exact Vw.val _
end Go.Proofs.YtlihpalpkdgclaaDoor
