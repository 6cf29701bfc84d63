import Derived.Test.YtbgecpjlopdkfaaDoorHeg
set_option linter.unusedSimpArgs false
set_option linter.unusedVariables false
set_option linter.unusedSectionVars false
set_option maxRecDepth 20000
namespace Go.Proofs.YtbgecpjlopdkfaaDoor
attribute [local irreducible] QOp aL aC qL
attribute [local irreducible] FOp POp hL xH
section
variable (N : Int) (m w : List (List Int)) (hm : m.length ≤ 9223372036854775807) (hw : w.length ≤ 9223372036854775807) (hmr : ∀ r ∈ m, r.length ≤ 9223372036854775807) (hwr : ∀ r ∈ w, r.length ≤ 9223372036854775807) (h : hck N m w ≠ 0)
include hm hw hmr hwr h
end
section
variable {n : Nat} {M J : List (List Nat)} (hL : La n M J) (hd : triB n (disP M J) = false)
include hL hd
set_option maxRecDepth 20000 in
theorem HImp_ok {x y : Nat} (hx : x < n) (hy : y < n) : AC Tryd.prog 75 [latA n (tn M) (tn J), .val (.int .i64 x), .val (.int .i64 y)] [] (.tup [.val (.int .i64 (impV n M J x y : Nat)), .val (.int .i64 0)]) [] := by
  have k := newAlg_ok n M J hL hd
  have ki := implies_0 hL hx hy
  have hn2 := hL.n2
  unfold alg0 at k ki
  unfold alg1 at ki
  unfold algC at k ki
  generalize impV n M J x y = r at *
  generalize tn (impA n M J) = T at *
  generalize endE (ta M) n = lo at *
  generalize endE (ta J) n = hi at *
  refine AC.mk (n := 34) (fn := Tryd.f75) Tryd.func75 (by kernel_rfl) rfl rfl rfl rfl (fun cx => ?_); dsimp only [argv, Nat.reduceAdd]
  (repeat' (first | refine a_seq ?_ | refine a_skip ?_ | refine a_ret ?_ | refine a_region ?_ | refine l_nil ?_ | (apply w_q; (focus (first | exact Q_move (by conv => lhs; whnf) | exact Q_assign (by conv => lhs; whnf) | exact Q_fieldAddr_ptr rfl KFl.h | exact Q_load_ptr rfl rfl rfl KSc.h | exact Q_load_all rfl rfl KAg.h | exact Q_lss rfl rfl | exact Q_geq rfl rfl | exact Q_neq rfl rfl | exact Q_extract rfl (by conv => lhs; whnf) | exact Q_pick_f rfl (by assumption) (by conv => lhs; whnf) | exact Q_maxN rfl rfl | exact Q_minN rfl rfl)); (focus exact rfl)) | (refine a_cond rfl ?_ ?_ <;> (intro h; (try (have hp := of_decide_eq_true h)); (try (have hp := of_decide_eq_false h)); (try contradiction); (try (exfalso; omega)))) | refine w_guard_y rfl rfl rfl (by first | assumption | rfl) ?_ | refine w_box rfl rfl (by first|(dsimp only[obA,obB,obD,obE,obF,obG,obI,List.map,AO.sh,AV.sh,AV.shl,Nat.reduceAdd];done)|exact rfl) (by first|(dsimp only[obA,obB,obD,obE,obF,obG,obI,List.map,AO.sh,AV.sh,AV.shl,Nat.reduceAdd];done)|exact rfl) rfl ?_ | ((refine w_callD (res := .tup [.ptr 0 0, .val (.int .i64 0)]) (news := [.box [.val (.int .i64 n), rows (tn M), rows (tn J), .val (.int .u32 0), .val (.int .i32 0), .val (.int .u32 0), .val (.slice none 0 0), .val (.int .i64 lo), .val (.int .i64 hi)]]) (.inl ⟨rfl, rfl⟩) (k) ?_ ?_ ?_ (by first | (dsimp only [List.cons_append, List.nil_append, List.append_nil, List.map, AO.sh, AV.sh, AV.shl, sh_ints, sh_rows, sh_pairs, sh_ords, List.length_cons, List.length_nil, Nat.reduceAdd, Nat.zero_add, Nat.add_zero]; done) | exact rfl) (by first | (dsimp only [AV.sh, AV.shl, sh_ints, sh_rows, sh_pairs, sh_ords, List.length_cons, List.length_nil, Nat.reduceAdd, Nat.zero_add, Nat.add_zero]; done) | exact rfl) rfl ?_; rotate_left 0; (focus exact rfl); (focus exact rfl); (focus ((repeat' (first | exact trivial | exact Vs.val _ | exact Vs.ro _ | refine Vs.agg' ?_ | refine ⟨?_, ?_⟩)); done)); rotate_left 1; all_goals (try (skip)))) | ((refine w_callN (res := .val (.int .i64 r)) (news := [.box [.val (.int .i64 n), rows (tn M), rows (tn J), .val (.int .u32 1), .val (.int .i32 0), .val (.int .u32 0), .own 1, .val (.int .i64 lo), .val (.int .i64 hi)], .row 22 1 (rowc T)]) (res' := .val (.int .i64 r)) (objs' := [.box [.val (.int .i64 n), rows (tn M), rows (tn J)], .box [.val (.int .i64 n), rows (tn M), rows (tn J), .val (.int .u32 1), .val (.int .i32 0), .val (.int .u32 0), .own 2, .val (.int .i64 lo), .val (.int .i64 hi)], .row 22 1 (rowc T)]) [1] 1 (.inl ⟨rfl, rfl⟩) (ki) ?_ ?_ rfl rfl (by decide) ?_ rfl rfl ?_ rfl rfl rfl ?_; rotate_left 0; (focus exact rfl); (focus exact rfl); (focus exact rfl); (focus exact rfl); rotate_left 1; all_goals (try (skip)))))); (try all_goals (try show retA _ _ _ _ _ _ _))
  all_goals first
    | (exfalso; omega)
    | (exfalso; simp at *; omega)
    | (refine ⟨[_, _], [], ⟨resV_tmp (by conv => lhs; whnf), resV_tmp (by conv => lhs; whnf), trivial⟩, VwOs.mk (by decide) trivial, ?_, rfl⟩; (repeat' (first | exact vwRL rfl | refine Vw.tup' ?_)); done)
    | (all_goals trace_state); fail
end
/-- What the reference asks of an element. -/
def tpB (M : List (List Nat)) (x y z w : Nat) : Bool := decide (ta M (ta M x z) y = ta M x z) && (List.range w).all fun u => !decide (ta M (ta M x u) y = ta M x u) || decide (ta M u z = u)
end Go.Proofs.YtbgecpjlopdkfaaDoor
