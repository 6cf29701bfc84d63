import Derived.Test.YtbgecpjlopdkfaaDoorHee
import Derived.Test.YtbgecpjlopdkfaaDoorKqb
import Derived.Test.YtbgecpjlopdkfaaDoorEngZzt
import Derived.Test.YtbgecpjlopdkfaaDoorKo
import Derived.Test.YtbgecpjlopdkfaaDoorSra
import Derived.Test.YtbgecpjlopdkfaaDoorFm
import Derived.Test.YtbgecpjlopdkfaaDoorEngZj
set_option linter.unusedSimpArgs false
set_option linter.unusedVariables false
set_option linter.unusedSectionVars false
set_option maxRecDepth 20000
namespace Go.Proofs.YtbgecpjlopdkfaaDoor
attribute [local irreducible] QOp aL aC qL
attribute [local irreducible] FOp POp hL xH
def impV (n : Nat) (M J : List (List Nat)) (x y : Nat) : Nat := impF (ta M) (ta J) (endE (ta M) n) x y n
def impA (n : Nat) (M J : List (List Nat)) : List (List Nat) := impT (ta M) (ta J) (endE (ta M) n) n n
/-- An algebra whose table is not laid yet, and one whose table is. -/
def alg0 (n : Nat) (M J : List (List Nat)) : List AO := [.box (algC n M J 0 0 (.val (.slice none 0 0)) (endE (ta M) n) (endE (ta J) n))]
def alg1 (n : Nat) (M J : List (List Nat)) : List AO := [.box (algC n M J 1 0 (.own 1) (endE (ta M) n) (endE (ta J) n)), .row 22 1 (rowc (tn (impA n M J)))]
section
variable {n : Nat} {M J : List (List Nat)} (hL : La n M J)
include hL
theorem impA_facts {x y : Nat} (hx : x < n) (hy : y < n) : (tn (impA n M J)).length = n ∧ ((tn (impA n M J)).getD x []).length = n ∧ ((tn (impA n M J)).getD x []).getD y 0 = (impV n M J x y : Nat) := by
  have hs := impT_sq hL.A hL.n1
  refine ⟨by rw [tn_len]; exact hs.len, by rw [tn_get, nl_len]; exact hs.row x hx, ?_⟩
  rw [tn_get, nl_get]
  exact congrArg _ (impT_ta hx hy)
set_option maxRecDepth 20000 in
set_option maxHeartbeats 2000000 in
theorem implies_0 {x y : Nat} (hx : x < n) (hy : y < n) : AC Tryd.prog 113 [.ptr 0 0, .val (.int .i64 x), .val (.int .i64 y)] (alg0 n M J) (.val (.int .i64 (impV n M J x y : Nat))) (alg1 n M J) := by
  obtain ⟨e1, e2, e3⟩ := impA_facts hL hx hy
  have kl := lay_ac n M J hL.n1 hL.n2 hL.sM hL.sJ hL.A (endE (ta J) n)
  rw [show impT (ta M) (ta J) (endE (ta M) n) n n = impA n M J from rfl] at kl
  unfold alg0 alg1
  generalize tn (impA n M J) = T at *
  unfold algC at *
  refine AC.mk (n := 23) (fn := Tryd.f113) Tryd.func113 (by kernel_rfl) rfl rfl rfl rfl (fun cx => ?_); dsimp only [argv, Nat.reduceAdd]
  (repeat' (first | refine a_seq ?_ | refine a_ret ?_ | refine a_region ?_ | refine l_nil ?_ | (apply w_q; (focus (first | exact Q_move (by conv => lhs; whnf) | exact Q_assign (by conv => lhs; whnf) | exact Q_fieldAddr_ptr rfl KFl.h | exact Q_load_ptr rfl rfl rfl KSc.h | exact Q_ix_ints rfl rfl rfl KSl.h (by omega) | exact Q_ld_ints rfl (by omega) KSc.h | exact Q_nilCheck rfl)); (focus exact rfl)) | (refine w_once1 rfl rfl (fun t h => by cases h; rfl) rfl rfl kl rfl rfl rfl rfl rfl rfl ?_) | (((first | apply w_q); (focus exact Q_ix_ownR (o := x) rfl rfl rfl rfl KSl.h (by omega)); (focus exact rfl))) | (((first | apply w_q); (focus exact Q_ld_ownR rfl rfl (by omega) KSc.h); (focus exact rfl))))); (try all_goals (try show retA _ _ _ _ _ _ _))
  all_goals first
    | (exfalso; omega)
    | (dsimp only [List.set_cons_succ, List.set_cons_zero]; rw [e3]; refine ⟨[_], [0, 1], ⟨resV_tmp (by conv => lhs; whnf), trivial⟩, VwOs.mk (by decide) ⟨⟨_, rfl, .box' ⟨.val _, .ro _, .ro _, .val _, .val _, .val _, .own _ _ rfl, .val _, .val _, trivial⟩⟩, ⟨⟨_, rfl, .row _ _ _⟩, trivial⟩⟩, ?_, rfl⟩; (repeat' (first | exact vwR rfl)); done)
    | (all_goals trace_state); fail
set_option maxRecDepth 20000 in
set_option maxHeartbeats 2000000 in
theorem implies_1 {x y : Nat} (hx : x < n) (hy : y < n) : AC Tryd.prog 113 [.ptr 0 0, .val (.int .i64 x), .val (.int .i64 y)] (alg1 n M J) (.val (.int .i64 (impV n M J x y : Nat))) (alg1 n M J) := by
  obtain ⟨e1, e2, e3⟩ := impA_facts hL hx hy
  unfold alg1
  generalize tn (impA n M J) = T at *
  unfold algC at *
  refine AC.mk (n := 23) (fn := Tryd.f113) Tryd.func113 (by kernel_rfl) rfl rfl rfl rfl (fun cx => ?_); dsimp only [argv, Nat.reduceAdd]
  (repeat' (first | refine a_seq ?_ | refine a_ret ?_ | refine a_region ?_ | refine l_nil ?_ | (apply w_q; (focus (first | exact Q_move (by conv => lhs; whnf) | exact Q_assign (by conv => lhs; whnf) | exact Q_fieldAddr_ptr rfl KFl.h | exact Q_load_ptr rfl rfl rfl KSc.h | exact Q_ix_ints rfl rfl rfl KSl.h (by omega) | exact Q_ld_ints rfl (by omega) KSc.h | exact Q_nilCheck rfl)); (focus exact rfl)) | (((first | apply w_q); (focus exact Q_mval); (focus exact rfl))) | (((first | apply w_q); (focus exact Q_onceD rfl rfl rfl); (focus exact rfl))) | (((first | apply w_q); (focus exact Q_ix_ownR (o := x) rfl rfl rfl rfl KSl.h (by omega)); (focus exact rfl))) | (((first | apply w_q); (focus exact Q_ld_ownR rfl rfl (by omega) KSc.h); (focus exact rfl))))); (try all_goals (try show retA _ _ _ _ _ _ _))
  all_goals first
    | (exfalso; omega)
    | (rw [e3]; refine ⟨[_], [0, 1], ⟨resV_tmp (by conv => lhs; whnf), trivial⟩, VwOs.mk (by decide) ⟨⟨_, rfl, .box' ⟨.val _, .ro _, .ro _, .val _, .val _, .val _, .own _ _ rfl, .val _, .val _, trivial⟩⟩, ⟨⟨_, rfl, .row _ _ _⟩, trivial⟩⟩, ?_, rfl⟩; (repeat' (first | exact vwR rfl)); done)
    | (all_goals trace_state); fail
set_option maxRecDepth 20000 in
set_option maxHeartbeats 2000000 in
theorem not_0 {x : Nat} (hx : x < n) : AC Tryd.prog 114 [.ptr 0 0, .val (.int .i64 x)] (alg0 n M J) (.val (.int .i64 (impV n M J x (endE (ta M) n) : Nat))) (alg1 n M J) := by
  have hlo := endE_lt hL.sM.lt n (Nat.le_refl n) hL.n1
  have ki := implies_0 hL hx hlo
  unfold alg0 alg1 at *
  generalize impV n M J x (endE (ta M) n) = r at *
  generalize tn (impA n M J) = T at *
  generalize endE (ta M) n = lo at *
  generalize endE (ta J) n = hi at *
  unfold algC at *
  refine AC.mk (n := 12) (fn := Tryd.f114) Tryd.func114 (by kernel_rfl) rfl rfl rfl rfl (fun cx => ?_); dsimp only [argv, Nat.reduceAdd]
  (repeat' (first | refine a_seq ?_ | refine a_ret ?_ | refine a_region ?_ | refine l_nil ?_ | (apply w_q; (focus (first | exact Q_move (by conv => lhs; whnf) | exact Q_assign (by conv => lhs; whnf) | exact Q_fieldAddr_ptr rfl KFl.h | exact Q_load_ptr rfl rfl rfl KSc.h | exact Q_nilCheck rfl)); (focus exact rfl)) | ((refine w_callN (res := .val (.int .i64 r)) (news := [.box [.val (.int .i64 n), rows (tn M), rows (tn J), .val (.int .u32 1), .val (.int .i32 0), .val (.int .u32 0), .own 1, .val (.int .i64 lo), .val (.int .i64 hi)], .row 22 1 (rowc T)]) (res' := .val (.int .i64 r)) (objs' := [.box [.val (.int .i64 n), rows (tn M), rows (tn J), .val (.int .u32 1), .val (.int .i32 0), .val (.int .u32 0), .own 1, .val (.int .i64 lo), .val (.int .i64 hi)], .row 22 1 (rowc T)]) [0] 1 (.inl ⟨rfl, rfl⟩) (ki) ?_ ?_ rfl rfl (by decide) ?_ rfl rfl ?_ rfl rfl rfl ?_; rotate_left 0; (focus exact rfl); (focus exact rfl); (focus exact rfl); (focus exact rfl); rotate_left 1; all_goals (try (skip)))))); (try all_goals (try show retA _ _ _ _ _ _ _))
  all_goals first
    | (exfalso; omega)
    | (refine ⟨[_], [0, 1], ⟨resV_tmp (by conv => lhs; whnf), trivial⟩, VwOs.mk (by decide) ⟨⟨_, rfl, .box' ⟨.val _, .ro _, .ro _, .val _, .val _, .val _, .own _ _ rfl, .val _, .val _, trivial⟩⟩, ⟨⟨_, rfl, .row _ _ _⟩, trivial⟩⟩, ?_, rfl⟩; (repeat' (first | exact vwR rfl)); done)
    | (all_goals trace_state); fail
set_option maxRecDepth 20000 in
set_option maxHeartbeats 2000000 in
theorem not_1 {x : Nat} (hx : x < n) : AC Tryd.prog 114 [.ptr 0 0, .val (.int .i64 x)] (alg1 n M J) (.val (.int .i64 (impV n M J x (endE (ta M) n) : Nat))) (alg1 n M J) := by
  have hlo := endE_lt hL.sM.lt n (Nat.le_refl n) hL.n1
  have ki := implies_1 hL hx hlo
  unfold alg1 at *
  generalize impV n M J x (endE (ta M) n) = r at *
  generalize tn (impA n M J) = T at *
  generalize endE (ta M) n = lo at *
  generalize endE (ta J) n = hi at *
  unfold algC at *
  refine AC.mk (n := 12) (fn := Tryd.f114) Tryd.func114 (by kernel_rfl) rfl rfl rfl rfl (fun cx => ?_); dsimp only [argv, Nat.reduceAdd]
  (repeat' (first | refine a_seq ?_ | refine a_ret ?_ | refine a_region ?_ | refine l_nil ?_ | (apply w_q; (focus (first | exact Q_move (by conv => lhs; whnf) | exact Q_assign (by conv => lhs; whnf) | exact Q_fieldAddr_ptr rfl KFl.h | exact Q_load_ptr rfl rfl rfl KSc.h | exact Q_nilCheck rfl)); (focus exact rfl)) | ((refine w_callW (res := .val (.int .i64 r)) (news := [.box [.val (.int .i64 n), rows (tn M), rows (tn J), .val (.int .u32 1), .val (.int .i32 0), .val (.int .u32 0), .own 1, .val (.int .i64 lo), .val (.int .i64 hi)], .row 22 1 (rowc T)]) [0, 1] (.inl ⟨rfl, rfl⟩) (ki) ?_ ?_ rfl rfl (by decide) ?_ rfl rfl ?_ (by first | (dsimp only [List.map, putL, AO.rn, AV.rn, AV.rnl, rn_ints, rn_rows, rn_pairs, List.map_cons, List.map_nil, List.set_cons_zero, List.set_cons_succ, List.getD_cons_zero, List.getD_cons_succ]; done) | exact rfl) (by first | (dsimp only [List.map, putL, AO.rn, AV.rn, AV.rnl, rn_ints, rn_rows, rn_pairs, List.map_cons, List.map_nil, List.set_cons_zero, List.set_cons_succ, List.getD_cons_zero, List.getD_cons_succ]; done) | exact rfl) rfl ?_; rotate_left 0; (focus exact rfl); (focus exact rfl); (focus exact rfl); (focus exact rfl); rotate_left 1; all_goals (try (skip)))))); (try all_goals (try show retA _ _ _ _ _ _ _))
  all_goals first
    | (exfalso; omega)
    | (refine ⟨[_], [0, 1], ⟨resV_tmp (by conv => lhs; whnf), trivial⟩, VwOs.mk (by decide) ⟨⟨_, rfl, .box' ⟨.val _, .ro _, .ro _, .val _, .val _, .val _, .own _ _ rfl, .val _, .val _, trivial⟩⟩, ⟨⟨_, rfl, .row _ _ _⟩, trivial⟩⟩, ?_, rfl⟩; (repeat' (first | exact vwR rfl)); done)
    | (all_goals trace_state); fail
end
end Go.Proofs.YtbgecpjlopdkfaaDoor
set_option linter.unusedSimpArgs false
set_option linter.unusedVariables false
set_option linter.unusedSectionVars false
set_option maxRecDepth 20000
namespace Go.Proofs.YtbgecpjlopdkfaaDoor
attribute [local irreducible] QOp aL aC qL
def modP (M J : List (List Nat)) (x y z : Nat) : Bool := decide (ta M x z = x) && decide (ta J x (ta M y z) ≠ ta M (ta J x y) z)
def alkP (M J : List (List Nat)) (x y z : Nat) : Bool := decide (ta M x z = ta M y z) && decide (ta J x z = ta J y z)
def penP (M J : List (List Nat)) (x y z : Nat) : Bool := decide (x ≠ y) && decide (ta M x y = x) && alkP M J x y z
def diaP (M J : List (List Nat)) (x y z : Nat) : Bool := decide (x ≠ y) && decide (y ≠ z) && decide (x ≠ z) && alkP M J x y z && alkP M J y z x
end Go.Proofs.YtbgecpjlopdkfaaDoor
set_option linter.unusedSimpArgs false
set_option linter.unusedVariables false
set_option linter.unusedSectionVars false
set_option maxRecDepth 20000
namespace Go.Proofs.YtbgecpjlopdkfaaDoor
attribute [local irreducible] QOp aL aC qL
attribute [local irreducible] FOp POp hL xH
/-- What is wrong with a lattice that shall have an algebra. -/
def hck (N : Int) (m w : List (List Int)) : Int := if lck N m w = 0 then (if triB N.toNat (disP (tz m) (tz w)) = true then 4 else 0) else lck N m w
theorem newAlg_ok (n : Nat) (M J : List (List Nat)) (hL : La n M J) (hd : triB n (disP M J) = false) :
    AC Tryd.prog 87 [latA n (tn M) (tn J)] [] (.tup [.ptr 0 0, .val (.int .i64 0)]) (alg0 n M J) := by
  have kd := LDist_ok n M J hL
  rw [hd] at kd
  have ke := LatEnds_ac n M J hL.n1 hL.n2 hL.sM hL.sJ
  unfold alg0 algC
  generalize endE (ta M) n = lo at *
  generalize endE (ta J) n = hi at *
  refine AC.mk (n := 32) (fn := Tryd.f87) Tryd.func87 (by kernel_rfl) rfl rfl rfl rfl (fun cx => ?_); dsimp only [argv, Nat.reduceAdd]
  (repeat' (first | refine a_seq ?_ | refine a_skip ?_ | refine a_ret ?_ | refine a_region ?_ | refine l_nil ?_ | (apply w_q; (focus (first | exact Q_move (by conv => lhs; whnf) | exact Q_assign (by conv => lhs; whnf) | exact Q_fieldAddr_ptr rfl KFl.h | exact Q_load_all rfl rfl KAg.h | exact Q_neq rfl rfl | exact Q_build1 KBd.h (by conv => lhs; whnf) (by conv => lhs; whnf) rfl rfl rfl (by simp only [List.map_cons, List.map_nil, List.take_succ_cons, List.take_zero, List.drop_succ_cons, List.drop_zero, List.drop_nil, List.nil_append, List.cons_append, List.append_nil, List.length_cons, List.length_nil, Nat.reduceAdd, Nat.reduceMul]; exact rfl) | exact Q_extract rfl (by conv => lhs; whnf) | exact Q_not rfl | exact Q_nilCheck rfl)); (focus exact rfl)) | (refine a_cond rfl ?_ ?_ <;> (intro h; (try (have hp := of_decide_eq_true h)); (try (have hp := of_decide_eq_false h)); (try contradiction); (try (exfalso; omega)))) | refine w_box rfl rfl (by first|(dsimp only[obA,obB,obD,obE,obF,obG,obI,List.map,AO.sh,AV.sh,AV.shl,Nat.reduceAdd];done)|exact rfl) (by first|(dsimp only[obA,obB,obD,obE,obF,obG,obI,List.map,AO.sh,AV.sh,AV.shl,Nat.reduceAdd];done)|exact rfl) rfl ?_ | refine w_store rfl rfl rfl (by conv => lhs; whnf) rfl KSz.h (by first|(dsimp only[obA,obB,obD,obE,obF,obG,obI,List.map,AO.sh,AV.sh,AV.shl,Nat.reduceAdd];done)|exact rfl) (by first|(dsimp only[obA,obB,obD,obE,obF,obG,obI,List.map,AO.sh,AV.sh,AV.shl,Nat.reduceAdd];done)|exact rfl) ?_ | ((refine w_callV (.inl ⟨rfl, rfl⟩) (kd) ?_ (by first | (dsimp only [AV.sh, AV.shl, sh_ints, sh_rows, sh_pairs, sh_ords]; done) | exact rfl) rfl ?_; rotate_left 0; (focus ((repeat' (first | exact trivial | exact Vs.val _ | exact Vs.ro _ | refine Vs.agg' ?_ | refine ⟨?_, ?_⟩)); done)); rotate_left 1; all_goals (try (skip)))) | ((refine w_callV (.inl ⟨rfl, rfl⟩) (ke) ?_ (by first | (dsimp only [AV.sh, AV.shl, sh_ints, sh_rows, sh_pairs, sh_ords]; done) | exact rfl) rfl ?_; rotate_left 0; (focus ((repeat' (first | exact trivial | exact Vs.val _ | exact Vs.ro _ | refine Vs.agg' ?_ | refine ⟨?_, ?_⟩)); done)); rotate_left 1; all_goals (try (skip)))))); (try all_goals (try show retA _ _ _ _ _ _ _))
  all_goals first
    | (exfalso; omega)
    | (exfalso; simp at *; done)
    | (refine ⟨[_, _], [1], ⟨resV_tmp (by conv => lhs; whnf), resV_tmp (by conv => lhs; whnf), trivial⟩, VwOs.mk (by decide) ⟨⟨_, rfl, .box' ⟨.val _, .ro _, .ro _, .val _, .val _, .val _, .val _, .val _, .val _, trivial⟩⟩, trivial⟩, ?_, rfl⟩; (repeat' (first | exact vwRL rfl | exact Vw.ptr _ _ _ rfl | refine Vw.tup' ?_ | refine ⟨?_, ?_⟩ )); done)
    | (all_goals trace_state); fail
end Go.Proofs.YtbgecpjlopdkfaaDoor
set_option linter.unusedSimpArgs false
set_option linter.unusedVariables false
set_option linter.unusedSectionVars false
set_option maxRecDepth 20000
namespace Go.Proofs.YtbgecpjlopdkfaaDoor
attribute [local irreducible] QOp aL aC qL
attribute [local irreducible] FOp POp hL xH
section
variable (N : Int) (m w : List (List Int)) (hm : m.length ≤ 9223372036854775807) (hw : w.length ≤ 9223372036854775807) (hmr : ∀ r ∈ m, r.length ≤ 9223372036854775807) (hwr : ∀ r ∈ w, r.length ≤ 9223372036854775807) (h : hck N m w ≠ 0)
include hm hw hmr hwr h
end
section
variable {n : Nat} {M J : List (List Nat)} (hL : La n M J) (hd : triB n (disP M J) = false)
include hL hd
set_option maxRecDepth 20000 in
theorem HImp_ok {x y : Nat} (hx : x < n) (hy : y < n) : AC Tryd.prog 75 [latA n (tn M) (tn J), .val (.int .i64 x), .val (.int .i64 y)] [] (.tup [.val (.int .i64 (impV n M J x y : Nat)), .val (.int .i64 0)]) [] := by
  have k := newAlg_ok n M J hL hd
  have ki := implies_0 hL hx hy
  have hn2 := hL.n2
  unfold alg0 at k ki
  unfold alg1 at ki
  unfold algC at k ki
  generalize impV n M J x y = r at *
  generalize tn (impA n M J) = T at *
  generalize endE (ta M) n = lo at *
  generalize endE (ta J) n = hi at *
  refine AC.mk (n := 34) (fn := Tryd.f75) Tryd.func75 (by kernel_rfl) rfl rfl rfl rfl (fun cx => ?_); dsimp only [argv, Nat.reduceAdd]
  (repeat' (first | refine a_seq ?_ | refine a_skip ?_ | refine a_ret ?_ | refine a_region ?_ | refine l_nil ?_ | (apply w_q; (focus (first | exact Q_move (by conv => lhs; whnf) | exact Q_assign (by conv => lhs; whnf) | exact Q_fieldAddr_ptr rfl KFl.h | exact Q_load_ptr rfl rfl rfl KSc.h | exact Q_load_all rfl rfl KAg.h | exact Q_lss rfl rfl | exact Q_geq rfl rfl | exact Q_neq rfl rfl | exact Q_extract rfl (by conv => lhs; whnf) | exact Q_pick_f rfl (by assumption) (by conv => lhs; whnf) | exact Q_maxN rfl rfl | exact Q_minN rfl rfl)); (focus exact rfl)) | (refine a_cond rfl ?_ ?_ <;> (intro h; (try (have hp := of_decide_eq_true h)); (try (have hp := of_decide_eq_false h)); (try contradiction); (try (exfalso; omega)))) | refine w_guard_y rfl rfl rfl (by first | assumption | rfl) ?_ | refine w_box rfl rfl (by first|(dsimp only[obA,obB,obD,obE,obF,obG,obI,List.map,AO.sh,AV.sh,AV.shl,Nat.reduceAdd];done)|exact rfl) (by first|(dsimp only[obA,obB,obD,obE,obF,obG,obI,List.map,AO.sh,AV.sh,AV.shl,Nat.reduceAdd];done)|exact rfl) rfl ?_ | ((refine w_callD (res := .tup [.ptr 0 0, .val (.int .i64 0)]) (news := [.box [.val (.int .i64 n), rows (tn M), rows (tn J), .val (.int .u32 0), .val (.int .i32 0), .val (.int .u32 0), .val (.slice none 0 0), .val (.int .i64 lo), .val (.int .i64 hi)]]) (.inl ⟨rfl, rfl⟩) (k) ?_ ?_ ?_ (by first | (dsimp only [List.cons_append, List.nil_append, List.append_nil, List.map, AO.sh, AV.sh, AV.shl, sh_ints, sh_rows, sh_pairs, sh_ords, List.length_cons, List.length_nil, Nat.reduceAdd, Nat.zero_add, Nat.add_zero]; done) | exact rfl) (by first | (dsimp only [AV.sh, AV.shl, sh_ints, sh_rows, sh_pairs, sh_ords, List.length_cons, List.length_nil, Nat.reduceAdd, Nat.zero_add, Nat.add_zero]; done) | exact rfl) rfl ?_; rotate_left 0; (focus exact rfl); (focus exact rfl); (focus ((repeat' (first | exact trivial | exact Vs.val _ | exact Vs.ro _ | refine Vs.agg' ?_ | refine ⟨?_, ?_⟩)); done)); rotate_left 1; all_goals (try (skip)))) | ((refine w_callN (res := .val (.int .i64 r)) (news := [.box [.val (.int .i64 n), rows (tn M), rows (tn J), .val (.int .u32 1), .val (.int .i32 0), .val (.int .u32 0), .own 1, .val (.int .i64 lo), .val (.int .i64 hi)], .row 22 1 (rowc T)]) (res' := .val (.int .i64 r)) (objs' := [.box [.val (.int .i64 n), rows (tn M), rows (tn J)], .box [.val (.int .i64 n), rows (tn M), rows (tn J), .val (.int .u32 1), .val (.int .i32 0), .val (.int .u32 0), .own 2, .val (.int .i64 lo), .val (.int .i64 hi)], .row 22 1 (rowc T)]) [1] 1 (.inl ⟨rfl, rfl⟩) (ki) ?_ ?_ rfl rfl (by decide) ?_ rfl rfl ?_ rfl rfl rfl ?_; rotate_left 0; (focus exact rfl); (focus exact rfl); (focus exact rfl); (focus exact rfl); rotate_left 1; all_goals (try (skip)))))); (try all_goals (try show retA _ _ _ _ _ _ _))
  all_goals first
    | (exfalso; omega)
    | (exfalso; simp at *; omega)
    | (refine ⟨[_, _], [], ⟨resV_tmp (by conv => lhs; whnf), resV_tmp (by conv => lhs; whnf), trivial⟩, VwOs.mk (by decide) trivial, ?_, rfl⟩; (repeat' (first | exact vwRL rfl | refine Vw.tup' ?_)); done)
    | (all_goals trace_state); fail
end
/-- What the reference asks of an element. -/
def tpB (M : List (List Nat)) (x y z w : Nat) : Bool := decide (ta M (ta M x z) y = ta M x z) && (List.range w).all fun u => !decide (ta M (ta M x u) y = ta M x u) || decide (ta M u z = u)
end Go.Proofs.YtbgecpjlopdkfaaDoor
