import Derived.Test.YtbgecpjlopdkfaaDoorFm
import Derived.Test.YtbgecpjlopdkfaaDoorEngZj
import Derived.Test.YtbgecpjlopdkfaaDoorEngZd
import Derived.Test.YtbgecpjlopdkfaaDoorKo
set_option linter.unusedSimpArgs false
set_option linter.unusedVariables false
set_option linter.unusedSectionVars false
set_option maxRecDepth 20000
namespace Go.Proofs.YtbgecpjlopdkfaaDoor
attribute [local irreducible] QOp aL aC qL
/-- Where a set stands. -/
def plc (S : List Nat) (s : Nat) : Int := idx (fun y => decide (y = (s : Int))) (nl S)
/-- A row of the lattice of sets, as far as k. -/
def mrow (S : List Nat) (op : Nat → Nat → Nat) (s k : Nat) : List Int := (S.take k).map fun t => plc S (op s t)
def mtab (S : List Nat) (op : Nat → Nat → Nat) (i : Nat) : List (List Int) := (S.take i).map fun s => mrow S op s S.length
end Go.Proofs.YtbgecpjlopdkfaaDoor
set_option linter.unusedSimpArgs false
set_option linter.unusedVariables false
set_option linter.unusedSectionVars false
set_option maxRecDepth 20000
namespace Go.Proofs.YtbgecpjlopdkfaaDoor
attribute [local irreducible] QOp aL aC qL
theorem LDist_err (N : Int) (m w : List (List Int)) (hm : m.length ≤ 9223372036854775807) (hw : w.length ≤ 9223372036854775807) (hmr : ∀ r ∈ m, r.length ≤ 9223372036854775807) (hwr : ∀ r ∈ w, r.length ≤ 9223372036854775807) (hz : lck N m w ≠ 0) :
    AC Tryd.prog 116 [latA N m w] [] (.tup [.val (.bool false), .val (.int .i64 (lck N m w))]) [] := by
  have k1 := LCheck_ac N m w hm hw hmr hwr
  generalize lck N m w = e at hz k1 ⊢
  refine AC.mk (n := 20) (fn := Tryd.f116) Tryd.func116 (by kernel_rfl) rfl rfl rfl rfl (fun cx => ?_); dsimp only [argv, Nat.reduceAdd]
  (repeat' (first | refine a_seq ?_ | refine a_ret ?_ | refine a_region ?_ | refine l_nil ?_ | (apply w_q; (focus (first | exact Q_move (by conv => lhs; whnf) | exact Q_assign (by conv => lhs; whnf) | exact Q_load_all rfl rfl KAg.h | exact Q_neq rfl rfl)); (focus exact rfl)) | (refine a_cond rfl ?_ ?_ <;> (intro h; (try (have hp := of_decide_eq_true h)); (try (have hp := of_decide_eq_false h)); (try contradiction); (try (exfalso; omega)))) | refine w_box rfl rfl (by first|(dsimp only[obA,obB,obD,obE,obF,obG,obI,List.map,AO.sh,AV.sh,AV.shl,Nat.reduceAdd];done)|exact rfl) (by first|(dsimp only[obA,obB,obD,obE,obF,obG,obI,List.map,AO.sh,AV.sh,AV.shl,Nat.reduceAdd];done)|exact rfl) rfl ?_ | (((first | apply w_q); (focus (refine Q_call (.inl ⟨rfl, rfl⟩) (k1) ?_; ((repeat' (first | exact trivial | exact vwR rfl | exact Vw.ro _ | refine Vw.agg' ?_ | refine ⟨?_, ?_⟩ )); done))); (focus exact rfl))))); (try all_goals (try show retA _ _ _ _ _ _ _))
  refine ⟨[_, _], [], ⟨resV_tmp (by conv => lhs; whnf), resV_tmp (by conv => lhs; whnf), trivial⟩, VwOs.mk (by decide) trivial, ?_, rfl⟩
  (repeat' (first | exact vwRL rfl | refine Vw.tup' ?_))
theorem LDist_ok (n : Nat) (M J : List (List Nat)) (hL : La n M J) : AC Tryd.prog 116 [latA n (tn M) (tn J)] [] (.tup [.val (.bool (!triB n (disP M J))), .val (.int .i64 0)]) [] := by
  have k1 := hL.chk
  have k2 := three_ac n M J (disP M J) hL.n2 (g := 131) (caps := [.rpt [.val (.int .i64 n), .sl 1 (rowc (tn M)), .sl 1 (rowc (tn J))] 0]) (fun x y z hx hy hz => Dis1_ac n M J hL x y z hx hy hz)
  generalize triB n (disP M J) = b at k2 ⊢
  generalize triL n (disP M J) = L at k2
  refine AC.mk (n := 20) (fn := Tryd.f116) Tryd.func116 (by kernel_rfl) rfl rfl rfl rfl (fun cx => ?_); dsimp only [argv, Nat.reduceAdd]
  (repeat' (first | refine a_seq ?_ | refine a_skip ?_ | refine a_ret ?_ | refine a_region ?_ | refine l_nil ?_ | (apply w_q; (focus (first | exact Q_move (by conv => lhs; whnf) | exact Q_assign (by conv => lhs; whnf) | exact Q_load_all rfl rfl KAg.h | exact Q_neq rfl rfl | exact Q_extract rfl (by conv => lhs; whnf) | exact Q_not rfl | exact Q_clo1 (by conv => lhs; whnf))); (focus exact rfl)) | (refine a_cond rfl ?_ ?_ <;> (intro h; (try (have hp := of_decide_eq_true h)); (try (have hp := of_decide_eq_false h)); (try contradiction); (try (exfalso; omega)))) | refine w_box rfl rfl (by first|(dsimp only[obA,obB,obD,obE,obF,obG,obI,List.map,AO.sh,AV.sh,AV.shl,Nat.reduceAdd];done)|exact rfl) (by first|(dsimp only[obA,obB,obD,obE,obF,obG,obI,List.map,AO.sh,AV.sh,AV.shl,Nat.reduceAdd];done)|exact rfl) rfl ?_ | (((first | apply w_q); (focus (refine Q_call (.inl ⟨rfl, rfl⟩) (k1) ?_; ((repeat' (first | exact trivial | exact vwR rfl | exact Vw.ro _ | refine Vw.agg' ?_ | refine ⟨?_, ?_⟩ )); done))); (focus exact rfl))) | ((refine w_freezeB 0 [.val (.int .i64 n), .sl 1 (rowc (tn M)), .sl 1 (rowc (tn J))] rfl rfl (by simp only [fbv_nil, fbv_cons, fbl_nil, fbl_cons, fbo_nil, fbo_cons, fbo_box, fbo_row, fbo_gone, fb_own, fb_val, fb_ro, fb_rpt, fb_ptr, fb_ept, fb_agg, fb_tup, fb_clo, fb_ints, fb_rows, fb_pairs, fb_ords, Nat.reduceEqDiff, ↓reduceIte, List.set_cons_zero, List.set_cons_succ]; exact rfl) (by simp only [fbv_nil, fbv_cons, fbl_nil, fbl_cons, fbo_nil, fbo_cons, fbo_box, fbo_row, fbo_gone, fb_own, fb_val, fb_ro, fb_rpt, fb_ptr, fb_ept, fb_agg, fb_tup, fb_clo, fb_ints, fb_rows, fb_pairs, fb_ords, Nat.reduceEqDiff, ↓reduceIte, List.set_cons_zero, List.set_cons_succ]; exact rfl) ?_; (refine w_callV (.inl ⟨rfl, rfl⟩) (k2) ?_ (by first | (dsimp only [AV.sh, AV.shl, sh_ints, sh_rows, sh_pairs, sh_ords]; done) | exact rfl) rfl ?_; rotate_left 0; (focus ((repeat' (first | exact trivial | exact Vs.val _ | exact Vs.ro _ | exact Vs.rpt _ _ | refine Vs.agg' ?_ | refine Vs.clo' ?_ | refine ⟨?_, ?_⟩)); done)); rotate_left 1; all_goals (try (skip))))))); (try all_goals (try show retA _ _ _ _ _ _ _))
  refine ⟨[_, _], [], ⟨resV_tmp (by conv => lhs; whnf), resV_tmp (by conv => lhs; whnf), trivial⟩, VwOs.mk (by decide) trivial, ?_, rfl⟩
  (repeat' (first | exact vwRL rfl | refine Vw.tup' ?_))
end Go.Proofs.YtbgecpjlopdkfaaDoor
