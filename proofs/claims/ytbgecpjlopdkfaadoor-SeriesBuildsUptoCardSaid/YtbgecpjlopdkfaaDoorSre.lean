import Derived.Test.YtbgecpjlopdkfaaDoorSrd
import Derived.Test.YtbgecpjlopdkfaaDoorEngZzc
import Derived.Test.YtbgecpjlopdkfaaDoorEngZd
import Derived.Test.YtbgecpjlopdkfaaDoorEngZf
import Derived.Test.YtbgecpjlopdkfaaDoorGr
set_option linter.unusedSimpArgs false
set_option linter.unusedVariables false
set_option linter.unusedSectionVars false
set_option maxRecDepth 20000
namespace Go.Proofs.YtbgecpjlopdkfaaDoor
attribute [local irreducible] QOp aL aC qL
theorem iLen64_2 : AC Tryd.prog 143 [.val (.int .u64 ((2 : Nat) : Int))] [] (.val (.int .i64 2)) [] := by
  refine AC.mk (n := 25) (fn := Tryd.f143) Tryd.func143 (by kernel_rfl) rfl rfl rfl rfl (fun cx => ?_); dsimp only [argv, Nat.reduceAdd]
  (repeat' (first | refine a_seq ?_ | refine a_skip ?_ | refine a_ret ?_ | refine a_region ?_ | refine l_nil ?_ | (apply w_q; (focus (first | exact Q_move (by conv => lhs; whnf) | exact Q_assign (by conv => lhs; whnf) | exact Q_add rfl rfl (by omega))); (focus exact rfl)) | (refine a_cond rfl ?_ ?_ <;> (intro h; (try (have hp := of_decide_eq_true h)); (try (have hp := of_decide_eq_false h)); (try contradiction); (try (exfalso; omega)))) | (((first | apply w_q); (focus exact Q_ugeq rfl rfl); (focus exact rfl))) | (((first | apply w_q); (focus exact Q_conv (n := ((2 : Nat) : Int)) rfl Tryd.underlying158 Tryd.underlying5 rfl); (focus exact rfl))) | (((first | apply w_q); (focus exact Q_ixStr (b := 2) (i := 2) rfl rfl rfl (by kernel_rfl)); (focus exact rfl))) | (((first | apply w_q); (focus exact Q_conv (n := ((2 : Nat) : Int)) rfl Tryd.underlying5 Tryd.underlying3 rfl); (focus exact rfl))))); (try all_goals (try show retA _ _ _ _ _ _ _))
  all_goals first
    | (exfalso; omega)
    | (refine ⟨[_], [], ⟨resV_tmp (by conv => lhs; whnf), trivial⟩, VwOs.mk (by decide) trivial, ?_, rfl⟩; (repeat' (first | exact vwR rfl)); done)
    | (all_goals trace_state); fail
attribute [local irreducible] FOp POp hL xH
end Go.Proofs.YtbgecpjlopdkfaaDoor
