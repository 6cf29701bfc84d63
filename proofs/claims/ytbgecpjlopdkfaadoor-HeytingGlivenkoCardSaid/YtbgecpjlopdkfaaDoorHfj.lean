import Derived.Test.YtbgecpjlopdkfaaDoorEngZzxa
import Derived.Test.YtbgecpjlopdkfaaDoorHfk
set_option linter.unusedSimpArgs false
set_option linter.unusedVariables false
set_option linter.unusedSectionVars false
set_option maxRecDepth 20000
namespace Go.Proofs.YtbgecpjlopdkfaaDoor
attribute [local irreducible] QOp aL aC qL
theorem gm_weak {ρ : Ids} {w : World} {M : Nat → Prop} {v : Value} {a b : AV} {sz : Nat} {cs cs' : List Dat} (hw : ∀ u, Rd w M u (.sl sz cs) → Rd w M u (.sl sz cs')) (h : Gm ρ w M (.agg [a, b, .ro (.sl sz cs)]) v) : Gm ρ w M (.agg [a, b, .ro (.sl sz cs')]) v := by
  cases h with
  | agg _ vs hl hg =>
    refine .agg _ vs hl fun i av v h1 h2 => ?_
    match i with
    | 0 => exact hg 0 av v h1 h2
    | 1 => exact hg 1 av v h1 h2
    | 2 =>
      simp at h1
      subst h1
      have := hg 2 _ v rfl h2
      cases this with
      | ro _ _ h => exact .ro _ _ (hw _ h)
    | i + 3 => simp at h1
theorem nt_cells (t : Tr) : kdc [t, .mk 1 0 []] = t.dc ++ [.val (.int .i64 1), .val (.int .i64 0), .sl 3 []] := by
  have e0 : kdc [] = [] := by unfold kdc; rfl
  have e1 : kdc [Tr.mk 1 0 []] = (Tr.mk 1 0 []).dc ++ kdc [] := by conv => lhs; unfold kdc
  have e2 : kdc [t, Tr.mk 1 0 []] = t.dc ++ kdc [Tr.mk 1 0 []] := by conv => lhs; unfold kdc
  rw [e2, e1, e0]
  have e3 : (Tr.mk 1 0 []).dc = [.val (.int .i64 1), .val (.int .i64 0), .sl 3 (kdc [])] := by unfold Tr.dc; rfl
  rw [e3, e0, List.append_nil]
set_option maxRecDepth 20000 in
set_option maxHeartbeats 4000000 in
theorem nots_ac (k v : Int) (l : List Tr) : AC Tryd.prog 46 [ta3 k v l] [] (ta3 5 0 [.mk k v l, .mk 1 0 []]) [] := by
  have h : AC Tryd.prog 46 [ta3 k v l] [] (.agg [.val (.int .i64 5), .val (.int .i64 0), .own 0]) [.row 55 3 ((Tr.mk k v l).dc ++ ntD)] := by
    unfold ta3
    refine AC.mk (n := 7) (fn := Tryd.f46) Tryd.func46 (by kernel_rfl) rfl rfl rfl rfl (fun cx => ?_); dsimp only [argv, Nat.reduceAdd]
    (repeat' (first | refine a_seq ?_ | refine a_ret ?_ | refine a_region ?_ | refine l_nil ?_ | (apply w_q; (focus (first | exact Q_load_all rfl rfl KAg.h | exact Q_build1 KBd.h (by conv => lhs; whnf) (by conv => lhs; whnf) rfl rfl rfl (by simp only [List.map_cons, List.map_nil, List.take_succ_cons, List.take_zero, List.drop_succ_cons, List.drop_zero, List.drop_nil, List.nil_append, List.cons_append, List.append_nil, List.length_cons, List.length_nil, Nat.reduceAdd, Nat.reduceMul]; exact rfl) | exact Q_build2 KBd.h (by conv => lhs; whnf) (by conv => lhs; whnf) rfl rfl rfl (by simp only [List.map_cons, List.map_nil, List.take_succ_cons, List.take_zero, List.drop_succ_cons, List.drop_zero, List.drop_nil, List.nil_append, List.cons_append, List.append_nil, List.length_cons, List.length_nil, Nat.reduceAdd, Nat.reduceMul]; exact rfl) (by conv => lhs; whnf) (by conv => lhs; whnf) rfl rfl rfl (by simp only [List.map_cons, List.map_nil, List.take_succ_cons, List.take_zero, List.drop_succ_cons, List.drop_zero, List.drop_nil, List.nil_append, List.cons_append, List.append_nil, List.length_cons, List.length_nil, Nat.reduceAdd, Nat.reduceMul]; exact rfl))); (focus exact rfl)) | refine w_box rfl rfl (by first|(dsimp only[obA,obB,obD,obE,obF,obG,obI,List.map,AO.sh,AV.sh,AV.shl,Nat.reduceAdd];done)|exact rfl) (by first|(dsimp only[obA,obB,obD,obE,obF,obG,obI,List.map,AO.sh,AV.sh,AV.shl,Nat.reduceAdd];done)|exact rfl) rfl ?_ | refine w_alloc KMk.h (by first|(dsimp only[obA,obB,obD,obE,obF,obG,obI,List.map,AO.sh,AV.sh,AV.shl,Nat.reduceAdd];done)|exact rfl) rfl (by first|(dsimp only[obA,obB,obD,obE,obF,obG,obI,List.map,AO.sh,AV.sh,AV.shl,Nat.reduceAdd];done)|exact rfl) (by first|(dsimp only[obA,obB,obD,obE,obF,obG,obI,List.map,AO.sh,AV.sh,AV.shl,Nat.reduceAdd];done)|exact rfl) rfl ?_ | refine w_store_all rfl rfl rfl rfl rfl KSz.h (by first|(dsimp only[obA,obB,obD,obE,obF,obG,obI,List.map,AO.sh,AV.sh,AV.shl,Nat.reduceAdd];done)|exact rfl) ?_ | (refine w_lit_two (t := .mk k v l) (by exact (tv_mk k v l).symm) (by exact ntD_ev.symm ▸ rfl) KSl.h KMk.h (by first|(dsimp only[obA,obB,obD,obE,obF,obG,obI,List.map,AO.sh,AV.sh,AV.shl,Nat.reduceAdd];done)|exact rfl) rfl rfl ?_))); (try all_goals (try show retA _ _ _ _ _ _ _))
    all_goals first
      | (exfalso; omega)
      | (refine ⟨[_], [2], ⟨resV_cell rfl rfl KAg.h, trivial⟩, VwOs.mk (by decide) ⟨⟨_, rfl, .row _ _ _⟩, trivial⟩, ?_, rfl⟩; (repeat' (first | exact trivial | exact vwR rfl | exact Vw.own _ _ rfl | refine Vw.agg' ?_ | refine ⟨?_, ?_⟩ )); done)
      | (all_goals trace_state); fail
  have h2 := AC.vw0 h (res2 := .agg [.val (.int .i64 5), .val (.int .i64 0), .ro (.sl 3 ((Tr.mk k v l).dc ++ ntD))]) (by (repeat' (first | exact trivial | exact vwR rfl | exact Vw.rowro _ _ _ _ rfl (by decide) | refine Vw.agg' ?_ | refine ⟨?_, ?_⟩ )))
  unfold ta3 tks
  rw [nt_cells]
  unfold ta3 tks at h2
  refine AC.resW h2 fun ρ w M vv hg => gm_weak (fun u hu => rd_weak hu (by simp [ntD]) fun j d' hj => ?_) hg
  unfold ntD
  rw [List.getElem?_append] at hj ⊢
  split at hj
  · rename_i hlt
    rw [if_pos hlt]
    exact ⟨d', hj, fun v h => h⟩
  · rename_i hlt
    rw [if_neg hlt]
    match hq : j - (Tr.mk k v l).dc.length, hj with
    | 0, hj => exact ⟨d', hj, fun v h => h⟩
    | 1, hj => exact ⟨d', hj, fun v h => h⟩
    | 2, hj =>
      simp at hj
      subst hj
      refine ⟨.val (.slice none 0 0), rfl, fun v h => ?_⟩
      cases h
      exact .nil 3
    | q + 3, hj => simp at hj
end Go.Proofs.YtbgecpjlopdkfaaDoor
