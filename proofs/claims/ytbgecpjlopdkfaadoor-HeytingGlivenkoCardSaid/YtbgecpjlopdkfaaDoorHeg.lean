import Derived.Test.YtbgecpjlopdkfaaDoorKo
import Derived.Test.YtbgecpjlopdkfaaDoorHef
import Derived.Test.YtbgecpjlopdkfaaDoorSra
import Derived.Test.YtbgecpjlopdkfaaDoorFm
import Derived.Test.YtbgecpjlopdkfaaDoorEngZj
set_option linter.unusedSimpArgs false
set_option linter.unusedVariables false
set_option linter.unusedSectionVars false
set_option maxRecDepth 20000
namespace Go.Proofs.YtbgecpjlopdkfaaDoor
attribute [local irreducible] QOp aL aC qL
def modP (M J : List (List Nat)) (x y z : Nat) : Bool := decide (ta M x z = x) && decide (ta J x (ta M y z) ≠ ta M (ta J x y) z)
def alkP (M J : List (List Nat)) (x y z : Nat) : Bool := decide (ta M x z = ta M y z) && decide (ta J x z = ta J y z)
def penP (M J : List (List Nat)) (x y z : Nat) : Bool := decide (x ≠ y) && decide (ta M x y = x) && alkP M J x y z
def diaP (M J : List (List Nat)) (x y z : Nat) : Bool := decide (x ≠ y) && decide (y ≠ z) && decide (x ≠ z) && alkP M J x y z && alkP M J y z x
end Go.Proofs.YtbgecpjlopdkfaaDoor
set_option linter.unusedSimpArgs false
set_option linter.unusedVariables false
set_option linter.unusedSectionVars false
set_option maxRecDepth 20000
namespace Go.Proofs.YtbgecpjlopdkfaaDoor
attribute [local irreducible] QOp aL aC qL
attribute [local irreducible] FOp POp hL xH
/-- What is wrong with a lattice that shall have an algebra. -/
def hck (N : Int) (m w : List (List Int)) : Int := if lck N m w = 0 then (if triB N.toNat (disP (tz m) (tz w)) = true then 4 else 0) else lck N m w
theorem hck_zero {N : Int} {m w : List (List Int)} (h : hck N m w = 0) : ∃ (n : Nat) (M J : List (List Nat)), N = n ∧ m = tn M ∧ w = tn J ∧ La n M J ∧ triB n (disP M J) = false ∧ DisP n (ta M) (ta J) := by
  unfold hck at h
  by_cases hz : lck N m w = 0
  · rw [if_pos hz] at h
    obtain ⟨n, M, J, rfl, rfl, rfl, hL⟩ := la_of hz
    rw [tz_tn, tz_tn, Int.toNat_natCast] at h
    cases hb : triB n (disP M J)
    · refine ⟨n, M, J, rfl, rfl, rfl, hL, hb, fun x y z hx hy hz' => ?_⟩
      have := of_decide_eq_false (triB_iff.1 hb x y z hx hy hz')
      exact Classical.not_not.1 this
    · rw [hb, if_pos rfl] at h; cases h
  · rw [if_neg hz] at h; exact absurd h hz
theorem newAlg_err (N : Int) (m w : List (List Int)) (hm : m.length ≤ 9223372036854775807) (hw : w.length ≤ 9223372036854775807) (hmr : ∀ r ∈ m, r.length ≤ 9223372036854775807) (hwr : ∀ r ∈ w, r.length ≤ 9223372036854775807) (h : hck N m w ≠ 0) :
    AC Tryd.prog 87 [latA N m w] [] (.tup [.val (.pointer none), .val (.int .i64 (hck N m w))]) [] := by
  unfold hck at *
  by_cases hz : lck N m w = 0
  · rw [if_pos hz] at h ⊢
    obtain ⟨n, M, J, rfl, rfl, rfl, hL⟩ := la_of hz
    have kd := LDist_ok n M J hL
    rw [tz_tn, tz_tn, Int.toNat_natCast] at h ⊢
    generalize triB n (disP M J) = b at *
    cases b
    · exact absurd rfl h
    · refine AC.mk (n := 32) (fn := Tryd.f87) Tryd.func87 (by kernel_rfl) rfl rfl rfl rfl (fun cx => ?_); dsimp only [argv, Nat.reduceAdd]
      (repeat' (first | refine a_seq ?_ | refine a_skip ?_ | refine a_ret ?_ | refine a_region ?_ | refine l_nil ?_ | (apply w_q; (focus (first | exact Q_move (by conv => lhs; whnf) | exact Q_assign (by conv => lhs; whnf) | exact Q_load_all rfl rfl KAg.h | exact Q_neq rfl rfl | exact Q_extract rfl (by conv => lhs; whnf) | exact Q_not rfl)); (focus exact rfl)) | (refine a_cond rfl ?_ ?_ <;> (intro h; (try (have hp := of_decide_eq_true h)); (try (have hp := of_decide_eq_false h)); (try contradiction); (try (exfalso; omega)))) | refine w_box rfl rfl (by first|(dsimp only[obA,obB,obD,obE,obF,obG,obI,List.map,AO.sh,AV.sh,AV.shl,Nat.reduceAdd];done)|exact rfl) (by first|(dsimp only[obA,obB,obD,obE,obF,obG,obI,List.map,AO.sh,AV.sh,AV.shl,Nat.reduceAdd];done)|exact rfl) rfl ?_ | ((refine w_callV (.inl ⟨rfl, rfl⟩) (kd) ?_ (by first | (dsimp only [AV.sh, AV.shl, sh_ints, sh_rows, sh_pairs, sh_ords]; done) | exact rfl) rfl ?_; rotate_left 0; (focus ((repeat' (first | exact trivial | exact Vs.val _ | exact Vs.ro _ | refine Vs.agg' ?_ | refine ⟨?_, ?_⟩)); done)); rotate_left 1; all_goals (try (skip)))))); (try all_goals (try show retA _ _ _ _ _ _ _))
      all_goals first
        | (exfalso; omega)
        | (exfalso; simp at *; done)
        | (refine ⟨[_, _], [], ⟨resV_tmp (by conv => lhs; whnf), resV_tmp (by conv => lhs; whnf), trivial⟩, VwOs.mk (by decide) trivial, ?_, rfl⟩; (repeat' (first | exact vwRL rfl | refine Vw.tup' ?_)); done)
        | (all_goals trace_state); fail
  · have kd := LDist_err N m w hm hw hmr hwr hz
    rw [if_neg hz]
    generalize lck N m w = e at *
    refine AC.mk (n := 32) (fn := Tryd.f87) Tryd.func87 (by kernel_rfl) rfl rfl rfl rfl (fun cx => ?_); dsimp only [argv, Nat.reduceAdd]
    (repeat' (first | refine a_seq ?_ | refine a_ret ?_ | refine a_region ?_ | refine l_nil ?_ | (apply w_q; (focus (first | exact Q_move (by conv => lhs; whnf) | exact Q_assign (by conv => lhs; whnf) | exact Q_load_all rfl rfl KAg.h | exact Q_neq rfl rfl | exact Q_extract rfl (by conv => lhs; whnf))); (focus exact rfl)) | (refine a_cond rfl ?_ ?_ <;> (intro h; (try (have hp := of_decide_eq_true h)); (try (have hp := of_decide_eq_false h)); (try contradiction); (try (exfalso; omega)))) | refine w_box rfl rfl (by first|(dsimp only[obA,obB,obD,obE,obF,obG,obI,List.map,AO.sh,AV.sh,AV.shl,Nat.reduceAdd];done)|exact rfl) (by first|(dsimp only[obA,obB,obD,obE,obF,obG,obI,List.map,AO.sh,AV.sh,AV.shl,Nat.reduceAdd];done)|exact rfl) rfl ?_ | ((refine w_callV (.inl ⟨rfl, rfl⟩) (kd) ?_ (by first | (dsimp only [AV.sh, AV.shl, sh_ints, sh_rows, sh_pairs, sh_ords]; done) | exact rfl) rfl ?_; rotate_left 0; (focus ((repeat' (first | exact trivial | exact Vs.val _ | exact Vs.ro _ | refine Vs.agg' ?_ | refine ⟨?_, ?_⟩)); done)); rotate_left 1; all_goals (try (skip)))))); (try all_goals (try show retA _ _ _ _ _ _ _))
    all_goals first
      | (exfalso; omega)
      | (exfalso; simp at *; done)
      | (refine ⟨[_, _], [], ⟨resV_tmp (by conv => lhs; whnf), resV_tmp (by conv => lhs; whnf), trivial⟩, VwOs.mk (by decide) trivial, ?_, rfl⟩; (repeat' (first | exact vwRL rfl | refine Vw.tup' ?_)); done)
      | (all_goals trace_state); fail
theorem newAlg_ok (n : Nat) (M J : List (List Nat)) (hL : La n M J) (hd : triB n (disP M J) = false) :
    AC Tryd.prog 87 [latA n (tn M) (tn J)] [] (.tup [.ptr 0 0, .val (.int .i64 0)]) (alg0 n M J) := by
  have kd := LDist_ok n M J hL
  rw [hd] at kd
  have ke := LatEnds_ac n M J hL.n1 hL.n2 hL.sM hL.sJ
  unfold alg0 algC
  generalize endE (ta M) n = lo at *
  generalize endE (ta J) n = hi at *
  refine AC.mk (n := 32) (fn := Tryd.f87) Tryd.func87 (by kernel_rfl) rfl rfl rfl rfl (fun cx => ?_); dsimp only [argv, Nat.reduceAdd]
  (repeat' (first | refine a_seq ?_ | refine a_skip ?_ | refine a_ret ?_ | refine a_region ?_ | refine l_nil ?_ | (apply w_q; (focus (first | exact Q_move (by conv => lhs; whnf) | exact Q_assign (by conv => lhs; whnf) | exact Q_fieldAddr_ptr rfl KFl.h | exact Q_load_all rfl rfl KAg.h | exact Q_neq rfl rfl | exact Q_build1 KBd.h (by conv => lhs; whnf) (by conv => lhs; whnf) rfl rfl rfl (by simp only [List.map_cons, List.map_nil, List.take_succ_cons, List.take_zero, List.drop_succ_cons, List.drop_zero, List.drop_nil, List.nil_append, List.cons_append, List.append_nil, List.length_cons, List.length_nil, Nat.reduceAdd, Nat.reduceMul]; exact rfl) | exact Q_extract rfl (by conv => lhs; whnf) | exact Q_not rfl | exact Q_nilCheck rfl)); (focus exact rfl)) | (refine a_cond rfl ?_ ?_ <;> (intro h; (try (have hp := of_decide_eq_true h)); (try (have hp := of_decide_eq_false h)); (try contradiction); (try (exfalso; omega)))) | refine w_box rfl rfl (by first|(dsimp only[obA,obB,obD,obE,obF,obG,obI,List.map,AO.sh,AV.sh,AV.shl,Nat.reduceAdd];done)|exact rfl) (by first|(dsimp only[obA,obB,obD,obE,obF,obG,obI,List.map,AO.sh,AV.sh,AV.shl,Nat.reduceAdd];done)|exact rfl) rfl ?_ | refine w_store rfl rfl rfl (by conv => lhs; whnf) rfl KSz.h (by first|(dsimp only[obA,obB,obD,obE,obF,obG,obI,List.map,AO.sh,AV.sh,AV.shl,Nat.reduceAdd];done)|exact rfl) (by first|(dsimp only[obA,obB,obD,obE,obF,obG,obI,List.map,AO.sh,AV.sh,AV.shl,Nat.reduceAdd];done)|exact rfl) ?_ | ((refine w_callV (.inl ⟨rfl, rfl⟩) (kd) ?_ (by first | (dsimp only [AV.sh, AV.shl, sh_ints, sh_rows, sh_pairs, sh_ords]; done) | exact rfl) rfl ?_; rotate_left 0; (focus ((repeat' (first | exact trivial | exact Vs.val _ | exact Vs.ro _ | refine Vs.agg' ?_ | refine ⟨?_, ?_⟩)); done)); rotate_left 1; all_goals (try (skip)))) | ((refine w_callV (.inl ⟨rfl, rfl⟩) (ke) ?_ (by first | (dsimp only [AV.sh, AV.shl, sh_ints, sh_rows, sh_pairs, sh_ords]; done) | exact rfl) rfl ?_; rotate_left 0; (focus ((repeat' (first | exact trivial | exact Vs.val _ | exact Vs.ro _ | refine Vs.agg' ?_ | refine ⟨?_, ?_⟩)); done)); rotate_left 1; all_goals (try (skip)))))); (try all_goals (try show retA _ _ _ _ _ _ _))
  all_goals first
    | (exfalso; omega)
    | (exfalso; simp at *; done)
    | (refine ⟨[_, _], [1], ⟨resV_tmp (by conv => lhs; whnf), resV_tmp (by conv => lhs; whnf), trivial⟩, VwOs.mk (by decide) ⟨⟨_, rfl, .box' ⟨.val _, .ro _, .ro _, .val _, .val _, .val _, .val _, .val _, .val _, trivial⟩⟩, trivial⟩, ?_, rfl⟩; (repeat' (first | exact vwRL rfl | exact Vw.ptr _ _ _ rfl | refine Vw.tup' ?_ | refine ⟨?_, ?_⟩ )); done)
    | (all_goals trace_state); fail
end Go.Proofs.YtbgecpjlopdkfaaDoor
