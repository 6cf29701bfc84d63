import Derived.Test.YtgojkabjgagjcaaEf
import Derived.Test.YtgojkabjgagjcaaEngZzq
import Derived.Test.YtgojkabjgagjcaaEngZzr
import Derived.Test.YtgojkabjgagjcaaCd
set_option linter.unusedSimpArgs false
set_option linter.unusedVariables false
set_option linter.unusedSectionVars false
set_option maxRecDepth 20000
namespace Go.Proofs.Ytgojkabjgagjcaa
attribute [local irreducible] QOp aL aC qL
attribute [local irreducible] FOp POp hL xH
def covB (n : Nat) (W : List Nat) : List AO := [.box [.val (.slice none 0 0)], .box [.val (.bool false)], .box [.val (.int .i64 n), ints (nl W)]]
theorem fs_at {α β : Type} {f : α → Option β} {pre RL : List α} {x : α} {b : β} (hp : pre ++ [x] <+: RL) (hn : ∀ r ∈ pre, f r = none) (hx : f x = some b) : RL.findSome? f = some b := by
  obtain ⟨t, rfl⟩ := hp
  rw [List.append_assoc, List.findSome?_append, List.findSome?_eq_none_iff.2 hn]
  simp [hx]
/-- What cover answers. -/
structure CovAC (n : Nat) (ns : List Nat) (k : Nat) (ps : List (Nat × Nat)) : Prop where
  yes : ∀ l, covN n ns k ps = some l → AC Try.prog 12 [ordv n (nl ns), pairs (pn ps), .val (.int .i64 ((k + 1 : Nat)))] [] (.tup [.own 0, .val (.bool true)]) [.row 22 1 (rowc (tn l))]
  no : covN n ns k ps = none → ∃ F, AC Try.prog 12 [ordv n (nl ns), pairs (pn ps), .val (.int .i64 ((k + 1 : Nat)))] [] (.tup [rows F, .val (.bool false)]) []
set_option maxRecDepth 20000 in
set_option maxHeartbeats 4000000 in
theorem cover_0 (n : Nat) (ns : List Nat) (hn : n ≤ 10) (hv : Vld n ns) (ps : List (Nat × Nat)) (hap : ∀ p ∈ ps, ApP n ns p) (hpl : ps.length ≤ 1000) : CovAC n ns 0 ps := by
  have kO := one_ac n ns ps hn hv (ap_in hap) hpl
  have main : ∀ (r : List Int) (b : Bool), AC Try.prog 20 [ordv n (nl ns), pairs (pn ps)] [] (.tup [ints r, .val (.bool b)]) [] → AC Try.prog 12 [ordv n (nl ns), pairs (pn ps), .val (.int .i64 ((0 + 1 : Nat)))] [] (.tup [.own 0, .val (.bool b)]) [.row 22 1 (rowc [r])] := by
    intro r b kO
    refine AC.mkM (n := 60) (fn := Try.f12) Try.func12 (by kernel_rfl) rfl rfl rfl rfl (fun cx => ?_); dsimp only [argv, Nat.reduceAdd]
    refine s_seqA ?_
    (repeat' (first | refine a_region ?_ | refine l_nil ?_ | refine w_box rfl rfl (by first|(dsimp only[obA,obB,obD,obE,obF,obG,obI,List.map,AO.sh,AV.sh,AV.shl,Nat.reduceAdd];done)|exact rfl) (by first|(dsimp only[obA,obB,obD,obE,obF,obG,obI,List.map,AO.sh,AV.sh,AV.shl,Nat.reduceAdd];done)|exact rfl) rfl ?_ | refine w_box1 (by conv => lhs; whnf) rfl rfl (by first|(dsimp only[obA,obB,obD,obE,obF,obG,obI,List.map,AO.sh,AV.sh,AV.shl,Nat.reduceAdd];done)|exact rfl) (by first|(dsimp only[obA,obB,obD,obE,obF,obG,obI,List.map,AO.sh,AV.sh,AV.shl,Nat.reduceAdd];done)|exact rfl) rfl ?_ | refine w_alloc KMk.h (by first|(dsimp only[obA,obB,obD,obE,obF,obG,obI,List.map,AO.sh,AV.sh,AV.shl,Nat.reduceAdd];done)|exact rfl) rfl (by first|(dsimp only[obA,obB,obD,obE,obF,obG,obI,List.map,AO.sh,AV.sh,AV.shl,Nat.reduceAdd];done)|exact rfl) (by first|(dsimp only[obA,obB,obD,obE,obF,obG,obI,List.map,AO.sh,AV.sh,AV.shl,Nat.reduceAdd];done)|exact rfl) rfl ?_)); (try all_goals (try show retA _ _ _ _ _ _ _))
    show aS _ _ _ _ _
    refine s_seqA ?_
    (repeat' (first | refine a_seq ?_ | refine a_ret ?_ | refine a_region ?_ | refine l_nil ?_ | (apply w_q; (focus (first | exact Q_move (by conv => lhs; whnf) | exact Q_assign (by conv => lhs; whnf) | exact Q_load_ptr rfl rfl rfl KSc.h | exact Q_load_all rfl rfl KAg.h | exact Q_eql rfl rfl | exact Q_extract rfl (by conv => lhs; whnf))); (focus exact rfl)) | (refine a_cond rfl ?_ ?_ <;> (intro h; (try (have hp := of_decide_eq_true h)); (try (have hp := of_decide_eq_false h)); (try contradiction); (try (exfalso; omega)))) | refine w_store rfl rfl rfl (by conv => lhs; whnf) rfl KSz.h (by first|(dsimp only[obA,obB,obD,obE,obF,obG,obI,List.map,AO.sh,AV.sh,AV.shl,Nat.reduceAdd];done)|exact rfl) (by first|(dsimp only[obA,obB,obD,obE,obF,obG,obI,List.map,AO.sh,AV.sh,AV.shl,Nat.reduceAdd];done)|exact rfl) ?_ | refine w_lit_r1 rfl KSl.h KMk.h (by first|(dsimp only[obA,obB,obD,obE,obF,obG,obI,List.map,AO.sh,AV.sh,AV.shl,Nat.reduceAdd];done)|exact rfl) (by first|(dsimp only[obA,obB,obD,obE,obF,obG,obI,List.map,AO.sh,AV.sh,AV.shl,Nat.reduceAdd];done)|exact rfl) rfl ?_ | ((refine w_callV (.inl ⟨rfl, rfl⟩) (kO) ?_ (by first | (dsimp only [AV.sh, AV.shl, sh_ints, sh_rows, sh_pairs, sh_ords]; done) | exact rfl) rfl ?_; rotate_left 0; (focus ((repeat' (first | exact trivial | exact Vs.val _ | exact Vs.ro _ | refine Vs.agg' ?_ | refine ⟨?_, ?_⟩)); done)); rotate_left 1; all_goals (try (skip)))))); (try all_goals (try show retA _ _ _ _ _ _ _))
    all_goals first
      | (exfalso; omega)
      | (refine ⟨[_, _], [5], ⟨resV_cell1 rfl rfl KSc.h rfl, resV_cell1 rfl rfl KSc.h rfl, trivial⟩, VwOs.mk (by decide) ⟨⟨_, rfl, .row _ _ _⟩, trivial⟩, ?_, rfl⟩; (repeat' (first | exact vwRL rfl | exact Vw.own _ _ rfl | refine Vw.tup' ?_ | refine ⟨?_, ?_⟩ )); done)
      | (all_goals trace_state); fail
  unfold covN at *
  cases ho : onE n ns ps with
  | none =>
    rw [ho] at kO
    refine ⟨fun l h => (by unfold covN at h; rw [ho] at h; cases h), fun _ => ⟨[[]], ?_⟩⟩
    exact (main _ _ kO).vw0 (by (repeat' (first | exact vwRL rfl | exact Vw.rowro _ _ _ _ rfl (by decide) | refine Vw.tup' ?_ | refine ⟨?_, ?_⟩ )))
  | some r =>
    rw [ho] at kO
    refine ⟨fun l h => ?_, fun h => (by unfold covN at h; rw [ho] at h; cases h)⟩
    unfold covN at h
    rw [ho] at h
    cases h
    exact main _ _ kO
set_option maxRecDepth 20000 in
set_option maxHeartbeats 4000000 in
theorem cover_s (n : Nat) (ns : List Nat) (hn : n ≤ 10) (hv : Vld n ns) (hok : okB n ns = true) (k : Nat) (hk : k ≤ 1000) (ih : ∀ ps, (∀ p ∈ ps, ApP n ns p) → ps.length ≤ 1000 → CovAC n ns k ps) (ps : List (Nat × Nat)) (hap : ∀ p ∈ ps, ApP n ns p) (hpl : ps.length ≤ 1000) (R : Option (List (List Nat))) (hR : covN n ns (k + 1) ps = R) :
    AC Try.prog 12 [ordv n (nl ns), pairs (pn ps), .val (.int .i64 ((k + 1 : Nat) + 1 : Nat))] [] (bif R.isSome then .tup [.own 0, .val (.bool true)] else .tup [rows [], .val (.bool false)]) (bif R.isSome then [.row 22 1 (rowc (tn (R.getD [])))] else []) := by
  have kP := PairsO_ac n ns false hn hv
  have hwv := wth_vld hv hap
  have hwo := wth_ok hv hok hap
  have hwr : ∀ r ∈ rowsL n (wth n ns ps), RowI n ns r := fun r h => ((wth_rows hv hap).1 h).1
  have hll : (prsTo n (pf n ns false) n).length ≤ 100 := Nat.le_trans (prsTo_len n _ n) (mul_le10 (Nat.le_refl n) hn)
  have hpn := pn_len ps
  have hpn2 := pn_len (prsTo n (pf n ns false) n)
  have kC : 0 < ps.length → AC Try.prog 21 [.val (.int .i64 n), pairs (pn (prsTo n (pf n ns false) n) ++ [(((ps.getD 0 (0, 0)).1 : Int), ((ps.getD 0 (0, 0)).2 : Int))])] [] (.tup [.agg [.val (.int .i64 n), .own 0], .val (.bool true)]) [.row 3 1 (intc (nl (wth n ns ps)))] := by
    intro h
    match ps, h with
    | p :: l, _ =>
      have ha := hap p List.mem_cons_self
      have hin : Inn n [p] := fun q hq => by rw [List.mem_singleton] at hq; subst hq; exact ⟨ha.l, ha.r⟩
      have := Close_ac n hn (prA n ns ++ [p]) (by rw [List.length_append]; unfold prA; simp; omega) (pr_in hv hin) true (wth_irr hv hok ha)
      rw [show prA n ns = prsTo n (pf n ns false) n from rfl, ← app_pn] at this
      exact this
  have kr := rz_rows_ac n (wth n ns ps)
  have hI := rows1_iter n (wth n ns ps) hn hwv hwo
  have hfs : (rowsL n (wth n ns ps)).findSome? (fun r => (covN n ns k (lftP r ps)).map fun l => l ++ [r]) = R := hR
  generalize rowsL n (wth n ns ps) = RL at *
  generalize prsTo n (pf n ns false) n = L at *
  generalize hW0 : wth n ns ps = W at *
  refine AC.mkM (n := 60) (fn := Try.f12) Try.func12 (by kernel_rfl) rfl rfl rfl rfl (fun cx => ?_); dsimp only [argv, Nat.reduceAdd]
  refine s_seqA ?_
  (repeat' (first | refine a_region ?_ | refine l_nil ?_ | refine w_box rfl rfl (by first|(dsimp only[obA,obB,obD,obE,obF,obG,obI,List.map,AO.sh,AV.sh,AV.shl,Nat.reduceAdd];done)|exact rfl) (by first|(dsimp only[obA,obB,obD,obE,obF,obG,obI,List.map,AO.sh,AV.sh,AV.shl,Nat.reduceAdd];done)|exact rfl) rfl ?_ | refine w_box1 (by conv => lhs; whnf) rfl rfl (by first|(dsimp only[obA,obB,obD,obE,obF,obG,obI,List.map,AO.sh,AV.sh,AV.shl,Nat.reduceAdd];done)|exact rfl) (by first|(dsimp only[obA,obB,obD,obE,obF,obG,obI,List.map,AO.sh,AV.sh,AV.shl,Nat.reduceAdd];done)|exact rfl) rfl ?_ | refine w_alloc KMk.h (by first|(dsimp only[obA,obB,obD,obE,obF,obG,obI,List.map,AO.sh,AV.sh,AV.shl,Nat.reduceAdd];done)|exact rfl) rfl (by first|(dsimp only[obA,obB,obD,obE,obF,obG,obI,List.map,AO.sh,AV.sh,AV.shl,Nat.reduceAdd];done)|exact rfl) (by first|(dsimp only[obA,obB,obD,obE,obF,obG,obI,List.map,AO.sh,AV.sh,AV.shl,Nat.reduceAdd];done)|exact rfl) rfl ?_)); (try all_goals (try show retA _ _ _ _ _ _ _))
  show aS _ _ _ _ _
  refine s_le ⟨60, [(3, .ptr 0 0), (4, .ptr 1 0), (5, .ptr 2 0), (6, .ptr 3 0), (7, .ptr 4 0)], [.box [.val (.int .i64 n), ints (nl ns)], .box [pairs (pn ps)], .box [.val (.int .i64 ((k + 1 : Nat) + 1 : Nat))], .box [.val (.slice none 0 0)], .box [.val (.bool false)]]⟩ [0, 1, 2, 3, 4] (by (refine St.le_mk rfl (VwOs.mk (by decide) ?_) ?_ <;> (repeat' (first | exact trivial | exact vwR rfl | exact Vw.ro _ | exact Vw.ptr _ _ _ rfl | refine VwO.box' ?_ | refine ⟨⟨_, rfl, ?_⟩, ?_⟩ | refine ⟨?_, ?_⟩ )))) rfl ?_
  refine s_seqA ?_
  refine w_freezeBC 0 [.val (.int .i64 n), .sl 1 (intc (nl ns))] rfl rfl (by simp only [fbv_nil, fbv_cons, fbl_nil, fbl_cons, fbo_nil, fbo_cons, fbo_box, fbo_row, fbo_gone, fb_own, fb_val, fb_ro, fb_rpt, fb_ptr, fb_ept, fb_agg, fb_tup, fb_clo, fb_ints, fb_rows, fb_pairs, fb_ords, Nat.reduceEqDiff, ↓reduceIte, List.set_cons_zero, List.set_cons_succ]; exact rfl) (by simp only [fbv_nil, fbv_cons, fbl_nil, fbl_cons, fbo_nil, fbo_cons, fbo_box, fbo_row, fbo_gone, fb_own, fb_val, fb_ro, fb_rpt, fb_ptr, fb_ept, fb_agg, fb_tup, fb_clo, fb_ints, fb_rows, fb_pairs, fb_ords, Nat.reduceEqDiff, ↓reduceIte, List.set_cons_zero, List.set_cons_succ]; exact rfl) ?_
  refine w_freezeBC 1 [.sl 2 (pairc (pn ps))] rfl rfl (by simp only [fbv_nil, fbv_cons, fbl_nil, fbl_cons, fbo_nil, fbo_cons, fbo_box, fbo_row, fbo_gone, fb_own, fb_val, fb_ro, fb_rpt, fb_ptr, fb_ept, fb_agg, fb_tup, fb_clo, fb_ints, fb_rows, fb_pairs, fb_ords, Nat.reduceEqDiff, ↓reduceIte, List.set_cons_zero, List.set_cons_succ]; exact rfl) (by simp only [fbv_nil, fbv_cons, fbl_nil, fbl_cons, fbo_nil, fbo_cons, fbo_box, fbo_row, fbo_gone, fb_own, fb_val, fb_ro, fb_rpt, fb_ptr, fb_ept, fb_agg, fb_tup, fb_clo, fb_ints, fb_rows, fb_pairs, fb_ords, Nat.reduceEqDiff, ↓reduceIte, List.set_cons_zero, List.set_cons_succ]; exact rfl) ?_
  refine w_freezeBC 2 [.val (.int .i64 ((k + 1 : Nat) + 1 : Nat))] rfl rfl (by simp only [fbv_nil, fbv_cons, fbl_nil, fbl_cons, fbo_nil, fbo_cons, fbo_box, fbo_row, fbo_gone, fb_own, fb_val, fb_ro, fb_rpt, fb_ptr, fb_ept, fb_agg, fb_tup, fb_clo, fb_ints, fb_rows, fb_pairs, fb_ords, Nat.reduceEqDiff, ↓reduceIte, List.set_cons_zero, List.set_cons_succ]; exact rfl) (by simp only [fbv_nil, fbv_cons, fbl_nil, fbl_cons, fbo_nil, fbo_cons, fbo_box, fbo_row, fbo_gone, fb_own, fb_val, fb_ro, fb_rpt, fb_ptr, fb_ept, fb_agg, fb_tup, fb_clo, fb_ints, fb_rows, fb_pairs, fb_ords, Nat.reduceEqDiff, ↓reduceIte, List.set_cons_zero, List.set_cons_succ]; exact rfl) ?_
  (repeat' (first | refine a_seq ?_ | refine a_skip ?_ | refine a_region ?_ | refine l_nil ?_ | (apply w_q; (focus (first | exact Q_eql rfl rfl | exact Q_ld_rv rfl rfl KSc.h)); (focus exact rfl)) | (refine a_cond rfl ?_ ?_ <;> (intro h; (try (have hp := of_decide_eq_true h)); (try (have hp := of_decide_eq_false h)); (try contradiction); (try (exfalso; omega)))))); (try all_goals (try show retA _ _ _ _ _ _ _))
  show aS _ _ _ _ _
  refine s_seqA ?_
  (repeat' (first | refine a_region ?_ | refine l_nil ?_ | (apply w_q; (focus (first | exact Q_ld_rpa rfl KAg.h rfl rfl (by first | (dsimp only [List.drop_zero, List.drop_succ_cons, List.take_succ_cons, List.take_zero, List.map, ofD]; done) | exact rfl))); (focus exact rfl)) | refine w_alloc KMk.h (by first|(dsimp only[obA,obB,obD,obE,obF,obG,obI,List.map,AO.sh,AV.sh,AV.shl,Nat.reduceAdd];done)|exact rfl) rfl (by first|(dsimp only[obA,obB,obD,obE,obF,obG,obI,List.map,AO.sh,AV.sh,AV.shl,Nat.reduceAdd];done)|exact rfl) (by first|(dsimp only[obA,obB,obD,obE,obF,obG,obI,List.map,AO.sh,AV.sh,AV.shl,Nat.reduceAdd];done)|exact rfl) rfl ?_ | refine w_store_all rfl rfl rfl rfl rfl KSz.h (by first|(dsimp only[obA,obB,obD,obE,obF,obG,obI,List.map,AO.sh,AV.sh,AV.shl,Nat.reduceAdd];done)|exact rfl) ?_)); (try all_goals (try show retA _ _ _ _ _ _ _))
  all_goals first
    | (exfalso; omega)
    | skip
  show aS _ _ _ _ _
  refine s_le ⟨60, [(3, .rpt [.val (.int .i64 n), .sl 1 (intc (nl ns))] 0), (4, .rpt [.sl 2 (pairc (pn ps))] 0), (5, .rpt [.val (.int .i64 ((k + 1 : Nat) + 1 : Nat))] 0), (6, .ptr 0 0), (7, .ptr 1 0), (10, .ptr 2 0)], covB n ns⟩ [3, 4, 5] (by unfold covB; (refine St.le_mk rfl (VwOs.mk (by decide) ?_) ?_ <;> (repeat' (first | exact trivial | exact vwR rfl | exact Vw.ro _ | exact Vw.ptr _ _ _ rfl | refine VwO.box' ?_ | refine ⟨⟨_, rfl, ?_⟩, ?_⟩ | refine ⟨?_, ?_⟩ )))) rfl ?_
  unfold covB
  refine s_seqA ?_
  refine w_cutLJ (X := Unit) [3, 4, 5, 6, 7, 10] (by simp only [keepv, getv_cons, Nat.reduceEqDiff, ↓reduceIte]; exact rfl) (fun _ => []) (fun _ => covB n W) (fun _ => True) ?_ ?_
  · by_cases hp0 : 0 < ps.length
    · have kC := kC hp0
      (repeat' (first | (refine a_holdRN (id := 6) (by kernel_rfl) rfl ?_; apply rw_first 0 rfl (by kernel_rfl); (focus (first | exact R_fieldAddr_rpt rfl KFl.h)); (focus exact rfl); apply rw_first 1 rfl (by kernel_rfl); (focus (first | exact R_ld_rv rfl rfl KSc.h)); (focus exact rfl); apply rw_first 2 rfl (by kernel_rfl); (focus (first | exact R_ld_rpa rfl KAg.h rfl (by first | (dsimp only [List.map, ofD]; done) | exact rfl))); (focus exact rfl); apply rw_first 4 rfl (by kernel_rfl); (focus (first | exact R_ld_rs rfl rfl KSc.h)); (focus exact rfl); apply rw_first 5 rfl (by kernel_rfl); (focus (first | exact R_ix_pn (o := 0) rfl rfl rfl KSl.h (by omega))); (focus exact rfl); apply rw_first 6 rfl (by kernel_rfl); (focus (first | exact R_ld_pn rfl (by omega) KAg.h)); (focus exact rfl); refine rw_frame (fun _ _ => ?_)) | refine xh_step (listed := [true, true, true, false, true, true, true, false, false, false, false, false, false, false]) (i := 3) (is := [7]) (by kernel_rfl) ⟨⟨_, rfl, ?_⟩, ⟨_, rfl, ?_⟩, trivial⟩ | refine xh_step (listed := [true, true, true, false, true, true, true, true, false, false, false, false, false, false]) (i := 3) (is := []) (by kernel_rfl) ⟨⟨_, rfl, ?_⟩, trivial⟩ | refine xh_step (listed := [true, true, true, true, true, true, true, true, false, false, false, false, false, false]) (i := 8) (is := []) (by kernel_rfl) ⟨⟨_, rfl, ?_⟩, trivial⟩ | refine xh_step (listed := [true, true, true, true, true, true, true, true, true, false, false, false, false, false]) (i := 9) (is := []) (by kernel_rfl) ⟨⟨_, rfl, ?_⟩, trivial⟩ | (apply xw_first (listed := [true, true, true, true, true, true, true, true, true, true, false, false, false, false]) 10 rfl (by kernel_rfl); (focus (first | exact P_move (by conv => lhs; whnf))); (focus exact rfl)) | (apply xw_first (listed := [true, true, true, true, true, true, true, true, true, true, true, false, false, false]) 11 rfl (by kernel_rfl); (focus (first | exact P_extract rfl (by conv => lhs; whnf))); (focus exact rfl)) | (apply xw_first (listed := [true, true, true, true, true, true, true, true, true, true, true, true, false, false]) 12 rfl (by kernel_rfl); (focus (first | exact P_extract rfl (by conv => lhs; whnf))); (focus exact rfl)) | refine xh_step (listed := [true, true, true, true, true, true, true, true, true, true, true, true, true, false]) (i := 13) (is := []) (by kernel_rfl) ⟨⟨_, rfl, ?_⟩, trivial⟩ | refine xh_done (listed := [true, true, true, true, true, true, true, true, true, true, true, true, true, true]) (by kernel_rfl) ?_ | refine xh_step (listed := [true, true, true, true, true, true, true, false, false, false, false, false, false, false]) (i := 7) (is := []) (by kernel_rfl) ⟨⟨_, rfl, ?_⟩, trivial⟩ | refine a_seq ?_ | refine a_region ?_ | refine l_nil ?_ | ((first | apply w_q); (focus (first | exact Q_gtr rfl rfl | exact Q_ld_rs rfl rfl KSc.h | exact Q_len_pairsN rfl KSl.h)); (focus exact rfl)) | (refine a_cond rfl ?_ ?_ <;> (intro h; (try (have hp := of_decide_eq_true h)); (try (have hp := of_decide_eq_false h)); (try contradiction); (try (exfalso; omega)))) | refine w_store_all rfl rfl rfl rfl rfl KSz.h (by first|(dsimp only[obA,obB,obD,obE,obF,obG,obI,List.map,AO.sh,AV.sh,AV.shl,Nat.reduceAdd];done)|exact rfl) ?_ | refine w_lit_pair rfl KSl.h KMk.h (by first|(dsimp only[obA,obB,obD,obE,obF,obG,obI,List.map,AO.sh,AV.sh,AV.shl,Nat.reduceAdd];done)|exact rfl) (by first|(dsimp only[obA,obB,obD,obE,obF,obG,obI,List.map,AO.sh,AV.sh,AV.shl,Nat.reduceAdd];done)|exact rfl) rfl ?_ | refine w_ap_pairs rfl rfl rfl rfl KSl.h KMk.h (by simp; omega) (by first|(dsimp only[obA,obB,obD,obE,obF,obG,obI,List.map,AO.sh,AV.sh,AV.shl,Nat.reduceAdd];done)|exact rfl) (by first|(dsimp only[obA,obB,obD,obE,obF,obG,obI,List.map,AO.sh,AV.sh,AV.shl,Nat.reduceAdd];done)|exact rfl) rfl ?_ | ((refine w_callR (res := .own 0) (news := [.row 43 2 (pairc (pn L))]) (.inl ⟨rfl, rfl⟩) (kP) ?_ ?_ ?_ rfl (by repeat' (first | exact trivial | exact flat_pairs _ _ | refine ⟨?_, ?_⟩)) (by first|(dsimp only[obA,obB,obD,obE,obF,obG,obI,List.map,AO.sh,AV.sh,AV.shl,Nat.reduceAdd];done)|exact rfl) (by first|(dsimp only[obA,obB,obD,obE,obF,obG,obI,List.map,AO.sh,AV.sh,AV.shl,Nat.reduceAdd];done)|exact rfl) rfl ?_; rotate_left 0; (focus exact rfl); (focus exact rfl); (focus ((repeat' (first | exact trivial | exact vwR rfl | exact vwRL rfl | exact Vw.ro _ | refine Vw.agg' ?_ | refine ⟨?_, ?_⟩ )); done)); rotate_left 1; all_goals (try (skip)))) | ((refine w_callR (res := .tup [.agg [.val (.int .i64 n), .own 0], .val (.bool true)]) (news := [.row 3 1 (intc (nl W))]) (.inl ⟨rfl, rfl⟩) (kC) ?_ ?_ ?_ rfl (by repeat' (first | exact trivial | exact flat_ints _ _ | refine ⟨?_, ?_⟩)) (by first|(dsimp only[obA,obB,obD,obE,obF,obG,obI,List.map,AO.sh,AV.sh,AV.shl,Nat.reduceAdd];done)|exact rfl) (by first|(dsimp only[obA,obB,obD,obE,obF,obG,obI,List.map,AO.sh,AV.sh,AV.shl,Nat.reduceAdd];done)|exact rfl) rfl ?_; rotate_left 0; (focus exact rfl); (focus exact rfl); (focus ((repeat' (first | exact trivial | exact vwR rfl | exact Vw.rowro _ _ _ _ rfl (by decide) | refine ⟨?_, ?_⟩ )); done)); rotate_left 1; all_goals (try (skip)))))); (try all_goals (try show retA _ _ _ _ _ _ _))
      all_goals first
        | (exfalso; omega)
        | (exact ⟨(), [0, 1, 2], trivial, by unfold covB; (refine St.le_mk rfl (VwOs.mk (by decide) ?_) ?_ <;> (repeat' (first | exact trivial | exact vwR rfl | exact Vw.ptr _ _ _ rfl | exact Vw.rowro _ _ _ _ rfl (by decide) | refine VwO.box' ?_ | refine ⟨⟨_, rfl, ?_⟩, ?_⟩ | refine ⟨?_, ?_⟩ ))), rfl⟩)
        | (all_goals trace_state); fail
    · have hps : ps = [] := List.eq_nil_of_length_eq_zero (by omega)
      have hW : ns = W := by rw [← hW0, hps]; rfl
      (repeat' (first | refine a_seq ?_ | refine a_skip ?_ | refine a_region ?_ | refine l_nil ?_ | (apply w_q; (focus (first | exact Q_gtr rfl rfl | exact Q_ld_rs rfl rfl KSc.h | exact Q_len_pairsN rfl KSl.h)); (focus exact rfl)) | (refine a_cond rfl ?_ ?_ <;> (intro h; (try (have hp := of_decide_eq_true h)); (try (have hp := of_decide_eq_false h)); (try contradiction); (try (exfalso; omega)))))); (try all_goals (try show retA _ _ _ _ _ _ _))
      all_goals first
        | (exfalso; omega)
        | (exact ⟨(), [0, 1, 2], trivial, by rw [← hW]; unfold covB; (refine St.le_mk rfl (VwOs.mk (by decide) ?_) ?_ <;> (repeat' (first | exact trivial | exact vwR rfl | exact Vw.ro _ | exact Vw.ptr _ _ _ rfl | refine VwO.box' ?_ | refine ⟨⟨_, rfl, ?_⟩, ?_⟩ | refine ⟨?_, ?_⟩ ))), rfl⟩)
        | (all_goals trace_state); fail
  rintro ⟨⟩ -
  unfold covB
  show aS _ _ _ _ _
  refine s_seqM ?_
  refine s_seqA ?_
  (repeat' (first | refine a_region ?_ | refine l_nil ?_ | (apply w_q; (focus (first | exact Q_load_all rfl rfl KAg.h)); (focus exact rfl)) | ((refine w_callV (.inl ⟨rfl, rfl⟩) (kr) ?_ (by first | (dsimp only [AV.sh, AV.shl, sh_ints, sh_rows, sh_pairs, sh_ords]; done) | exact rfl) rfl ?_; rotate_left 0; (focus ((repeat' (first | exact trivial | exact Vs.val _ | exact Vs.ro _ | refine Vs.agg' ?_ | refine ⟨?_, ?_⟩)); done)); rotate_left 1; all_goals (try (skip)))))); (try all_goals (try show retA _ _ _ _ _ _ _))
  show aS _ _ _ _ _
  refine s_block ?_
  refine s_le ⟨60, [(43, .clo 35 [.rpt [.val (.int .i64 n), .sl 1 (intc (nl W))] 0]), (3, .rpt [.val (.int .i64 n), .sl 1 (intc (nl ns))] 0), (4, .rpt [.sl 2 (pairc (pn ps))] 0), (5, .rpt [.val (.int .i64 ((k + 1 : Nat) + 1 : Nat))] 0), (6, .ptr 0 0), (7, .ptr 1 0)], [.box [.val (.slice none 0 0)], .box [.val (.bool false)]]⟩ [0, 1] (by (refine St.le_mk rfl (VwOs.mk (by decide) ?_) ?_ <;> (repeat' (first | exact trivial | exact vwR rfl | exact Vw.ptr _ _ _ rfl | refine VwO.box' ?_ | refine ⟨⟨_, rfl, ?_⟩, ?_⟩ | refine ⟨?_, ?_⟩ )))) rfl ?_
  refine s_rangeG (fun _ => [.box [.val (.slice none 0 0)], .box [.val (.bool false)]]) (fun _ => [.box [.own 2], .box [.val (.bool true)], .row 22 1 (rowc (tn (R.getD [])))]) (fun pre => ∀ r ∈ pre, covN n ns k (lftP r ps) = none) (fun pre => R.isSome = true)
    (fun x => [(11, ints (nl x)), (44, ints (nl x)), (43, .clo 35 [.rpt [.val (.int .i64 n), .sl 1 (intc (nl W))] 0]), (3, .rpt [.val (.int .i64 n), .sl 1 (intc (nl ns))] 0), (4, .rpt [.sl 2 (pairc (pn ps))] 0), (5, .rpt [.val (.int .i64 ((k + 1 : Nat) + 1 : Nat))] 0), (6, .ptr 0 0), (7, .ptr 1 0)])
    rfl rfl hI (fun _ => rfl) rfl ?_ (fun _ h => by cases h) ?_ (fun hY => ?_) (fun pre hp hX => ?_)
  · intro _ k' cx' l pre x hpre
    refine r_region rfl (fun _ h => h) ?_
    (repeat' (first | refine l_nil ?_ | (apply w_q; (focus (first | exact Q_assign (by conv => lhs; whnf))); (focus exact rfl)))); (try all_goals (try show retA _ _ _ _ _ _ _))
    exact rfl
  · intro _ cx' l pre x hpre hY
    have hx : x ∈ RL := hpre.subset (List.mem_append_right _ (List.mem_singleton.2 rfl))
    have hrI := hwr x hx
    have kl := left_ac x ps (by rw [hrI.len]; omega) hpl fun p hp => ⟨hrI.all _ (hap p hp).l, hrI.all _ (hap p hp).r⟩
    have hc := ih (lftP x ps) (lft_ap hap) (Nat.le_trans (List.length_filter_le _ _) hpl)
    have ek : (((k + 1 : Nat) + 1 : Nat) : Int) - 1 = ((k + 1 : Nat) : Int) := by omega
    refine r_block (r_seq ?_)
    cases hcv : covN n ns k (lftP x ps) with
    | none =>
      obtain ⟨F, kc⟩ := hc.no hcv
      rw [← ek] at kc
      (repeat' (first | (refine r_holdRN (id := 9) (by kernel_rfl) rfl rfl ?_; apply rw_first 0 rfl (by kernel_rfl); (focus (first | exact R_ld_rpa rfl KAg.h rfl (by first | (dsimp only [List.map, ofD]; done) | exact rfl))); (focus exact rfl); apply rw_first 1 rfl (by kernel_rfl); (focus (first | exact R_ld_rs rfl rfl KSc.h)); (focus exact rfl); apply rw_first 2 rfl (by kernel_rfl); (focus (exact R_move (by conv => lhs; whnf))); (focus exact rfl); apply rw_first 4 rfl (by kernel_rfl); (focus (first | exact R_ld_rv rfl rfl KSc.h)); (focus exact rfl); refine rw_frame (fun _ _ => ?_)) | refine xh_step (listed := [true, true, true, false, true, false, false, false, false, false, false, false]) (i := 3) (is := [5]) (by kernel_rfl) ⟨⟨_, rfl, ?_⟩, ⟨_, rfl, ?_⟩, trivial⟩ | refine xh_step (listed := [true, true, true, false, true, true, false, false, false, false, false, false]) (i := 3) (is := []) (by kernel_rfl) ⟨⟨_, rfl, ?_⟩, trivial⟩ | refine xh_step (listed := [true, true, true, true, true, true, false, false, false, false, false, false]) (i := 6) (is := []) (by kernel_rfl) ⟨⟨_, rfl, ?_⟩, trivial⟩ | (apply xw_first (listed := [true, true, true, true, true, true, true, false, false, false, false, false]) 7 rfl (by kernel_rfl); (focus (first | exact P_move (by conv => lhs; whnf))); (focus exact rfl)) | (apply xw_first (listed := [true, true, true, true, true, true, true, true, false, false, false, false]) 8 rfl (by kernel_rfl); (focus (first | exact P_extract rfl (by conv => lhs; whnf))); (focus exact rfl)) | (apply xw_first (listed := [true, true, true, true, true, true, true, true, true, false, false, false]) 9 rfl (by kernel_rfl); (focus (first | exact P_extract rfl (by conv => lhs; whnf))); (focus exact rfl)) | (apply xw_first (listed := [true, true, true, true, true, true, true, true, true, true, false, false]) 10 rfl (by kernel_rfl); (focus (first | exact P_assign (by conv => lhs; whnf))); (focus exact rfl)) | (apply xw_first (listed := [true, true, true, true, true, true, true, true, true, true, true, false]) 11 rfl (by kernel_rfl); (focus (first | exact P_assign (by conv => lhs; whnf))); (focus exact rfl)) | refine xh_done (listed := [true, true, true, true, true, true, true, true, true, true, true, true]) (by kernel_rfl) ?_ | refine xh_step (listed := [true, true, true, true, true, false, false, false, false, false, false, false]) (i := 5) (is := []) (by kernel_rfl) ⟨⟨_, rfl, ?_⟩, trivial⟩ | refine l_nil ?_ | ((first | apply w_q); (focus (first | exact Q_sub rfl rfl (by omega))); (focus exact rfl)) | ((refine w_callV (.inl ⟨rfl, rfl⟩) (kl) ?_ (by first | (dsimp only [AV.sh, AV.shl, sh_ints, sh_rows, sh_pairs, sh_ords]; done) | exact rfl) rfl ?_; rotate_left 0; (focus ((repeat' (first | exact trivial | exact Vs.ro _ | refine ⟨?_, ?_⟩)); done)); rotate_left 1; all_goals (try (skip)))) | ((refine w_callV (.inl ⟨rfl, rfl⟩) (kc) ?_ (by first | (dsimp only [AV.sh, AV.shl, sh_ints, sh_rows, sh_pairs, sh_ords]; done) | exact rfl) rfl ?_; rotate_left 0; (focus ((repeat' (first | exact trivial | exact Vs.val _ | exact Vs.ro _ | refine Vs.agg' ?_ | refine ⟨?_, ?_⟩)); done)); rotate_left 1; all_goals (try (skip)))))); (try all_goals (try show retA _ _ _ _ _ _ _))
      all_goals
        show aR _ _ _ _ _ _
        refine r_seq (r_region rfl (fun _ h => h) ?_)
        (repeat' (first | refine l_nil ?_ | (apply w_q; (focus (first | exact Q_move (by conv => lhs; whnf))); (focus exact rfl)))); (try all_goals (try show retA _ _ _ _ _ _ _))
        show aR _ _ _ _ _ _
        refine r_cond rfl (fun h => by cases h) (fun h => ?_)
        refine r_skip ⟨fun r hr => ?_, rfl⟩
        rcases List.mem_append.1 hr with h' | h'
        · exact hY r h'
        · rw [List.mem_singleton] at h'; subst h'; exact hcv
    | some l0 =>
      have hRs : R = some (l0 ++ [x]) := hfs.symm.trans (fs_at hpre (fun r hr => by rw [hY r hr]; rfl) (by rw [hcv]; rfl))
      have et : tn (l0 ++ [x]) = tn l0 ++ [nl x] := by unfold tn; rw [List.map_append]; rfl
      have hl0 := (covN_some hv k _ l0 (lft_ap hap) hcv).1
      have htl := tn_len l0
      subst hRs
      have kc := hc.yes l0 hcv
      rw [← ek] at kc
      (repeat' (first | (refine r_holdRN (id := 9) (by kernel_rfl) rfl rfl ?_; apply rw_first 0 rfl (by kernel_rfl); (focus (first | exact R_ld_rpa rfl KAg.h rfl (by first | (dsimp only [List.map, ofD]; done) | exact rfl))); (focus exact rfl); apply rw_first 1 rfl (by kernel_rfl); (focus (first | exact R_ld_rs rfl rfl KSc.h)); (focus exact rfl); apply rw_first 2 rfl (by kernel_rfl); (focus (exact R_move (by conv => lhs; whnf))); (focus exact rfl); apply rw_first 4 rfl (by kernel_rfl); (focus (first | exact R_ld_rv rfl rfl KSc.h)); (focus exact rfl); refine rw_frame (fun _ _ => ?_)) | refine xh_step (listed := [true, true, true, false, true, false, false, false, false, false, false, false]) (i := 3) (is := [5]) (by kernel_rfl) ⟨⟨_, rfl, ?_⟩, ⟨_, rfl, ?_⟩, trivial⟩ | refine xh_step (listed := [true, true, true, false, true, true, false, false, false, false, false, false]) (i := 3) (is := []) (by kernel_rfl) ⟨⟨_, rfl, ?_⟩, trivial⟩ | refine xh_step (listed := [true, true, true, true, true, true, false, false, false, false, false, false]) (i := 6) (is := []) (by kernel_rfl) ⟨⟨_, rfl, ?_⟩, trivial⟩ | (apply xw_first (listed := [true, true, true, true, true, true, true, false, false, false, false, false]) 7 rfl (by kernel_rfl); (focus (first | exact P_move (by conv => lhs; whnf))); (focus exact rfl)) | (apply xw_first (listed := [true, true, true, true, true, true, true, true, false, false, false, false]) 8 rfl (by kernel_rfl); (focus (first | exact P_extract rfl (by conv => lhs; whnf))); (focus exact rfl)) | (apply xw_first (listed := [true, true, true, true, true, true, true, true, true, false, false, false]) 9 rfl (by kernel_rfl); (focus (first | exact P_extract rfl (by conv => lhs; whnf))); (focus exact rfl)) | (apply xw_first (listed := [true, true, true, true, true, true, true, true, true, true, false, false]) 10 rfl (by kernel_rfl); (focus (first | exact P_assign (by conv => lhs; whnf))); (focus exact rfl)) | (apply xw_first (listed := [true, true, true, true, true, true, true, true, true, true, true, false]) 11 rfl (by kernel_rfl); (focus (first | exact P_assign (by conv => lhs; whnf))); (focus exact rfl)) | refine xh_done (listed := [true, true, true, true, true, true, true, true, true, true, true, true]) (by kernel_rfl) ?_ | refine xh_step (listed := [true, true, true, true, true, false, false, false, false, false, false, false]) (i := 5) (is := []) (by kernel_rfl) ⟨⟨_, rfl, ?_⟩, trivial⟩ | refine l_nil ?_ | ((first | apply w_q); (focus (first | exact Q_sub rfl rfl (by omega))); (focus exact rfl)) | ((refine w_callV (.inl ⟨rfl, rfl⟩) (kl) ?_ (by first | (dsimp only [AV.sh, AV.shl, sh_ints, sh_rows, sh_pairs, sh_ords]; done) | exact rfl) rfl ?_; rotate_left 0; (focus ((repeat' (first | exact trivial | exact Vs.ro _ | refine ⟨?_, ?_⟩)); done)); rotate_left 1; all_goals (try (skip)))) | ((refine w_callD (res := .tup [.own 0, .val (.bool true)]) (news := [.row 22 1 (rowc (tn l0))]) (.inl ⟨rfl, rfl⟩) (kc) ?_ ?_ ?_ (by first | (dsimp only [List.cons_append, List.nil_append, List.append_nil, List.map, AO.sh, AV.sh, AV.shl, sh_ints, sh_rows, sh_pairs, sh_ords, List.length_cons, List.length_nil, Nat.reduceAdd, Nat.zero_add, Nat.add_zero]; done) | exact rfl) (by first | (dsimp only [AV.sh, AV.shl, sh_ints, sh_rows, sh_pairs, sh_ords, List.length_cons, List.length_nil, Nat.reduceAdd, Nat.zero_add, Nat.add_zero]; done) | exact rfl) rfl ?_; rotate_left 0; (focus exact rfl); (focus exact rfl); (focus ((repeat' (first | exact trivial | exact Vs.val _ | exact Vs.ro _ | refine Vs.agg' ?_ | refine ⟨?_, ?_⟩)); done)); rotate_left 1; all_goals (try (skip)))))); (try all_goals (try show retA _ _ _ _ _ _ _))
      all_goals
        show aR _ _ _ _ _ _
        refine r_seq (r_region rfl (fun _ h => h) ?_)
        (repeat' (first | refine l_nil ?_ | (apply w_q; (focus (first | exact Q_move (by conv => lhs; whnf))); (focus exact rfl)))); (try all_goals (try show retA _ _ _ _ _ _ _))
        show aR _ _ _ _ _ _
        refine r_cond rfl (fun h => ?_) (fun h => by cases h)
        refine r_leE (r_seq (r_region rfl (fun _ h => ?_) ?_))
        · obtain ⟨_, _, _, _, h⟩ := h; exact h
        (repeat' (first | refine l_nil ?_ | (apply w_q; (focus (first | exact Q_move (by conv => lhs; whnf))); (focus exact rfl)) | refine w_store rfl rfl rfl (by conv => lhs; whnf) rfl KSz.h (by first|(dsimp only[obA,obB,obD,obE,obF,obG,obI,List.map,AO.sh,AV.sh,AV.shl,Nat.reduceAdd];done)|exact rfl) (by first|(dsimp only[obA,obB,obD,obE,obF,obG,obI,List.map,AO.sh,AV.sh,AV.shl,Nat.reduceAdd];done)|exact rfl) ?_ | refine w_lit_r1 rfl KSl.h KMk.h (by first|(dsimp only[obA,obB,obD,obE,obF,obG,obI,List.map,AO.sh,AV.sh,AV.shl,Nat.reduceAdd];done)|exact rfl) (by first|(dsimp only[obA,obB,obD,obE,obF,obG,obI,List.map,AO.sh,AV.sh,AV.shl,Nat.reduceAdd];done)|exact rfl) rfl ?_ | refine w_ap_rows rfl rfl (by first | exact .inl rfl | exact .inr (.inl ⟨_, _, rfl, rfl⟩) | exact .inr (.inr ⟨rfl, rfl⟩)) KSl.h KMk.h (by simp; omega) (by first|(dsimp only[obA,obB,obD,obE,obF,obG,obI,List.map,AO.sh,AV.sh,AV.shl,Nat.reduceAdd];done)|exact rfl) (by first|(dsimp only[obA,obB,obD,obE,obF,obG,obI,List.map,AO.sh,AV.sh,AV.shl,Nat.reduceAdd];done)|exact rfl) rfl ?_)); (try all_goals (try show retA _ _ _ _ _ _ _))
        all_goals first
          | (exfalso; omega)
          | (show aR _ _ _ _ _ _
             refine r_ret ⟨⟨60, [], [.box [.own 2], .box [.val (.bool true)], .row 22 1 (rowc (tn l0 ++ [nl x]))]⟩, [0, 1, 4], by (refine St.le_mk rfl (VwOs.mk (by decide) ?_) ?_ <;> (repeat' (first | exact trivial | exact vwR rfl | exact Vw.own _ _ rfl | exact VwO.row _ _ _ | refine VwO.box' ?_ | refine ⟨⟨_, rfl, ?_⟩, ?_⟩ | refine ⟨?_, ?_⟩ ))), rfl, rfl, by rw [← et]; rfl⟩)
          | (all_goals trace_state); fail
  · have hRn : R = none := hfs.symm.trans (List.findSome?_eq_none_iff.2 fun r hr => by rw [hY r hr]; rfl)
    subst hRn
    show aM _ _ _ _ _
    refine m_seq (m_regionS (s1 := ?s) rfl (fun cx' => ?h1) ?h2)
    case h1 =>
      (repeat' (first | refine l_nil ?_ | refine w_store rfl rfl rfl (by conv => lhs; whnf) rfl KSz.h (by first|(dsimp only[obA,obB,obD,obE,obF,obG,obI,List.map,AO.sh,AV.sh,AV.shl,Nat.reduceAdd];done)|exact rfl) (by first|(dsimp only[obA,obB,obD,obE,obF,obG,obI,List.map,AO.sh,AV.sh,AV.shl,Nat.reduceAdd];done)|exact rfl) ?_)); (try all_goals (try show retA _ _ _ _ _ _ _))
      exact rfl
    show aM _ _ _ _ _
    refine m_ret ?_
    show retA _ _ _ _ _ _ _
    dsimp only [cond, Option.isSome]
    refine ⟨[_, _], [], ⟨resV_cell1 rfl rfl KSc.h rfl, resV_cell1 rfl rfl KSc.h rfl, trivial⟩, VwOs.mk (by decide) trivial, ?_, rfl⟩
    (repeat' (first | exact vwRL rfl | exact Vw.nilro _ | refine Vw.tup' ?_ | refine ⟨?_, ?_⟩ ))
  · obtain ⟨L0, rfl⟩ := Option.isSome_iff_exists.1 hX
    dsimp only [blockA, thenA, cond, Option.isSome, Option.getD]
    refine ⟨[_, _], [2], ⟨resV_cell1 rfl rfl KSc.h rfl, resV_cell1 rfl rfl KSc.h rfl, trivial⟩, VwOs.mk (by decide) ⟨⟨_, rfl, .row _ _ _⟩, trivial⟩, ?_, rfl⟩
    (repeat' (first | exact vwRL rfl | exact Vw.own _ _ rfl | refine Vw.tup' ?_ | refine ⟨?_, ?_⟩ ))
/-- Whatever the number of rows: what cover answers is what the search says. -/
theorem cover_ac (n : Nat) (ns : List Nat) (hn : n ≤ 10) (hv : Vld n ns) (hok : okB n ns = true) : ∀ (k : Nat), k ≤ 1000 → ∀ (ps : List (Nat × Nat)), (∀ p ∈ ps, ApP n ns p) → ps.length ≤ 1000 → CovAC n ns k ps
  | 0, _, ps, hap, hpl => cover_0 n ns hn hv ps hap hpl
  | k + 1, hk, ps, hap, hpl => by
    have h := cover_s n ns hn hv hok k (by omega) (fun ps h1 h2 => cover_ac n ns hn hv hok k (by omega) ps h1 h2) ps hap hpl _ rfl
    refine ⟨fun l hl => ?_, fun hl => ⟨[], ?_⟩⟩
    · rw [hl] at h; exact h
    · rw [hl] at h; exact h
theorem checkR_err (N : Int) (l : List Int) (h : chk N l ≠ 0) : AC Try.prog 10 [ordv N l] [] (.val (.int .i64 (chk N l))) [] := by
  have kC := Check_ac N l
  generalize chk N l = e at *
  refine AC.mk (n := 12) (fn := Try.f10) Try.func10 (by kernel_rfl) rfl rfl rfl rfl (fun cx => ?_); dsimp only [argv, Nat.reduceAdd]
  (repeat' (first | refine a_seq ?_ | refine a_ret ?_ | refine a_region ?_ | refine l_nil ?_ | (apply w_q; (focus (first | exact Q_move (by conv => lhs; whnf) | exact Q_assign (by conv => lhs; whnf) | exact Q_load_all rfl rfl KAg.h | exact Q_neq rfl rfl)); (focus exact rfl)) | (refine a_cond rfl ?_ ?_ <;> (intro h; (try (have hp := of_decide_eq_true h)); (try (have hp := of_decide_eq_false h)); (try contradiction); (try (exfalso; omega)))) | refine w_box rfl rfl (by first|(dsimp only[obA,obB,obD,obE,obF,obG,obI,List.map,AO.sh,AV.sh,AV.shl,Nat.reduceAdd];done)|exact rfl) (by first|(dsimp only[obA,obB,obD,obE,obF,obG,obI,List.map,AO.sh,AV.sh,AV.shl,Nat.reduceAdd];done)|exact rfl) rfl ?_ | (((first | apply w_q); (focus (refine Q_call (.inl ⟨rfl, rfl⟩) (kC) ?_; ((repeat' (first | exact trivial | exact vwR rfl | exact Vw.ro _ | refine Vw.agg' ?_ | refine ⟨?_, ?_⟩ )); done))); (focus exact rfl))))); (try all_goals (try show retA _ _ _ _ _ _ _))
  all_goals first
    | (exfalso; omega)
    | (refine ⟨[_], [], ⟨resV_tmp (by conv => lhs; whnf), trivial⟩, VwOs.mk (by decide) trivial, ?_, rfl⟩; (repeat' (first | exact vwR rfl)); done)
    | (all_goals trace_state); fail
theorem checkR_many (n : Nat) (ns : List Nat) (hn : n ≤ 10) (h7 : 7 < n) (hv : Vld n ns) (hok : okB n ns = true) : AC Try.prog 10 [ordv n (nl ns)] [] (.val (.int .i64 2)) [] := by
  have kC := Check_ac n (nl ns)
  rw [chk_ok hn hv hok] at kC
  refine AC.mk (n := 12) (fn := Try.f10) Try.func10 (by kernel_rfl) rfl rfl rfl rfl (fun cx => ?_); dsimp only [argv, Nat.reduceAdd]
  (repeat' (first | refine a_seq ?_ | refine a_skip ?_ | refine a_ret ?_ | refine a_region ?_ | refine l_nil ?_ | (apply w_q; (focus (first | exact Q_move (by conv => lhs; whnf) | exact Q_assign (by conv => lhs; whnf) | exact Q_fieldAddr_ptr rfl KFl.h | exact Q_load_ptr rfl rfl rfl KSc.h | exact Q_load_all rfl rfl KAg.h | exact Q_gtr rfl rfl | exact Q_neq rfl rfl)); (focus exact rfl)) | (refine a_cond rfl ?_ ?_ <;> (intro h; (try (have hp := of_decide_eq_true h)); (try (have hp := of_decide_eq_false h)); (try contradiction); (try (exfalso; omega)))) | refine w_box rfl rfl (by first|(dsimp only[obA,obB,obD,obE,obF,obG,obI,List.map,AO.sh,AV.sh,AV.shl,Nat.reduceAdd];done)|exact rfl) (by first|(dsimp only[obA,obB,obD,obE,obF,obG,obI,List.map,AO.sh,AV.sh,AV.shl,Nat.reduceAdd];done)|exact rfl) rfl ?_ | (((first | apply w_q); (focus (refine Q_call (.inl ⟨rfl, rfl⟩) (kC) ?_; ((repeat' (first | exact trivial | exact vwR rfl | exact Vw.ro _ | refine Vw.agg' ?_ | refine ⟨?_, ?_⟩ )); done))); (focus exact rfl))))); (try all_goals (try show retA _ _ _ _ _ _ _))
  all_goals first
    | (exfalso; omega)
    | (refine ⟨[_], [], ⟨resV_tmp (by conv => lhs; whnf), trivial⟩, VwOs.mk (by decide) trivial, ?_, rfl⟩; (repeat' (first | exact vwR rfl)); done)
    | (all_goals trace_state); fail
theorem checkR_ok (n : Nat) (ns : List Nat) (hn : n ≤ 7) (hv : Vld n ns) (hok : okB n ns = true) : AC Try.prog 10 [ordv n (nl ns)] [] (.val (.int .i64 0)) [] := by
  have kC := Check_ac n (nl ns)
  rw [chk_ok (by omega) hv hok] at kC
  refine AC.mk (n := 12) (fn := Try.f10) Try.func10 (by kernel_rfl) rfl rfl rfl rfl (fun cx => ?_); dsimp only [argv, Nat.reduceAdd]
  (repeat' (first | refine a_seq ?_ | refine a_skip ?_ | refine a_ret ?_ | refine a_region ?_ | refine l_nil ?_ | (apply w_q; (focus (first | exact Q_move (by conv => lhs; whnf) | exact Q_assign (by conv => lhs; whnf) | exact Q_fieldAddr_ptr rfl KFl.h | exact Q_load_ptr rfl rfl rfl KSc.h | exact Q_load_all rfl rfl KAg.h | exact Q_gtr rfl rfl | exact Q_neq rfl rfl)); (focus exact rfl)) | (refine a_cond rfl ?_ ?_ <;> (intro h; (try (have hp := of_decide_eq_true h)); (try (have hp := of_decide_eq_false h)); (try contradiction); (try (exfalso; omega)))) | refine w_box rfl rfl (by first|(dsimp only[obA,obB,obD,obE,obF,obG,obI,List.map,AO.sh,AV.sh,AV.shl,Nat.reduceAdd];done)|exact rfl) (by first|(dsimp only[obA,obB,obD,obE,obF,obG,obI,List.map,AO.sh,AV.sh,AV.shl,Nat.reduceAdd];done)|exact rfl) rfl ?_ | (((first | apply w_q); (focus (refine Q_call (.inl ⟨rfl, rfl⟩) (kC) ?_; ((repeat' (first | exact trivial | exact vwR rfl | exact Vw.ro _ | refine Vw.agg' ?_ | refine ⟨?_, ?_⟩ )); done))); (focus exact rfl))))); (try all_goals (try show retA _ _ _ _ _ _ _))
  all_goals first
    | (exfalso; omega)
    | (refine ⟨[_], [], ⟨resV_tmp (by conv => lhs; whnf), trivial⟩, VwOs.mk (by decide) trivial, ?_, rfl⟩; (repeat' (first | exact vwR rfl)); done)
    | (all_goals trace_state); fail
set_option maxRecDepth 20000 in
set_option maxHeartbeats 4000000 in
theorem Dim_ok (n : Nat) (ns : List Nat) (hn : n ≤ 7) (hv : Vld n ns) (hok : okB n ns = true) (k : Nat) (l : List (List Nat)) (hl : covN n ns k (apL n ns) = some l) (hk : k ≤ (apL n ns).length) (hno : ∀ j, j < k → covN n ns j (apL n ns) = none) :
    AC Try.prog 4 [ordv n (nl ns)] [] (.tup [.val (.int .i64 ((k + 1 : Nat))), rows (tn l), .val (.int .i64 0)]) [] := by
  have kA := apart_ac n ns (by omega) hv
  have hlen : (apL n ns).length ≤ 100 := Nat.le_trans (prsTo_len n _ n) (mul_le10 (Nat.le_refl n) (by omega))
  have kC := fun j (h : j ≤ 1000) => cover_ac n ns (by omega) hv hok j h (apL n ns) (fun p hp => apL_mem.1 hp) (by omega)
  have kc := checkR_ok n ns hn hv hok
  generalize apL n ns = ps at *
  refine AC.mk (n := 29) (fn := Try.f4) Try.func4 (by kernel_rfl) rfl rfl rfl rfl (fun cx => ?_); dsimp only [argv, Nat.reduceAdd]
  (repeat' (first | refine a_seq ?_ | refine a_block ?_ | refine a_skip ?_ | refine a_region ?_ | refine l_nil ?_ | (apply w_q; (focus (first | exact Q_move (by conv => lhs; whnf) | exact Q_assign (by conv => lhs; whnf) | exact Q_load_all rfl rfl KAg.h | exact Q_neq rfl rfl)); (focus exact rfl)) | (refine a_cond rfl ?_ ?_ <;> (intro h; (try (have hp := of_decide_eq_true h)); (try (have hp := of_decide_eq_false h)); (try contradiction); (try (exfalso; omega)))) | refine w_box rfl rfl (by first|(dsimp only[obA,obB,obD,obE,obF,obG,obI,List.map,AO.sh,AV.sh,AV.shl,Nat.reduceAdd];done)|exact rfl) (by first|(dsimp only[obA,obB,obD,obE,obF,obG,obI,List.map,AO.sh,AV.sh,AV.shl,Nat.reduceAdd];done)|exact rfl) rfl ?_ | (((first | apply w_q); (focus (refine Q_call (.inl ⟨rfl, rfl⟩) (kc) ?_; ((repeat' (first | exact trivial | exact vwR rfl | exact Vw.ro _ | refine Vw.agg' ?_ | refine ⟨?_, ?_⟩ )); done))); (focus exact rfl))) | ((refine w_callV (.inl ⟨rfl, rfl⟩) (kA) ?_ (by first | (dsimp only [AV.sh, AV.shl, sh_ints, sh_rows, sh_pairs, sh_ords]; done) | exact rfl) rfl ?_; rotate_left 0; (focus ((repeat' (first | exact trivial | exact Vs.val _ | exact Vs.ro _ | refine Vs.agg' ?_ | refine ⟨?_, ?_⟩)); done)); rotate_left 1; all_goals (try (skip)))))); (try all_goals (try show retA _ _ _ _ _ _ _))
  all_goals first
    | (exfalso; omega)
    | skip
  refine w_loop (X := Nat) [1, 6] (by simp only [keepv, getv_cons, Nat.reduceEqDiff, ↓reduceIte]; exact rfl) (fun j => [(7, .val (.int .i64 ((j + 1 : Nat))))]) (fun _ => [.box [.val (.int .i64 n), ints (nl ns)]]) (fun j => j ≤ k) (fun j => k - j) (0) ([0]) ?_ ?_ rfl ?_ <;> (try dsimp only [List.cons_append, List.nil_append])
  · exact Nat.zero_le _
  · (refine St.le_mk rfl (VwOs.mk (by decide) ?_) ?_ <;> (repeat' (first | exact trivial | exact vwR rfl | exact Vw.ro _ | exact Vw.ptr _ _ _ rfl | refine VwO.box' ?_ | refine ⟨⟨_, rfl, ?_⟩, ?_⟩ | refine ⟨?_, ?_⟩ )))
  intro j hj
  have kC := kC j (by omega)
  by_cases hjk : j < k
  · obtain ⟨F, kC⟩ := kC.no (hno j hjk)
    (repeat' (first | refine a_seq ?_ | refine a_block ?_ | refine a_skip ?_ | refine a_region ?_ | refine l_nil ?_ | (apply w_q; (focus (first | exact Q_move (by conv => lhs; whnf) | exact Q_assign (by conv => lhs; whnf) | exact Q_load_all rfl rfl KAg.h | exact Q_add rfl rfl (by omega) | exact Q_extract rfl (by conv => lhs; whnf))); (focus exact rfl)) | (refine a_cond rfl ?_ ?_ <;> (intro h; (try (have hp := of_decide_eq_true h)); (try (have hp := of_decide_eq_false h)); (try contradiction); (try (exfalso; omega)))) | ((refine w_callV (.inl ⟨rfl, rfl⟩) (kC) ?_ (by first | (dsimp only [AV.sh, AV.shl, sh_ints, sh_rows, sh_pairs, sh_ords]; done) | exact rfl) rfl ?_; rotate_left 0; (focus ((repeat' (first | exact trivial | exact Vs.val _ | exact Vs.ro _ | refine Vs.agg' ?_ | refine ⟨?_, ?_⟩)); done)); rotate_left 1; all_goals (try (skip)))))); (try all_goals (try show retA _ _ _ _ _ _ _))
    all_goals first
      | (exfalso; omega)
      | (exfalso; simp at *; done)
      | (refine ⟨j + 1, [0], ?_, ?_, ?_, rfl⟩ <;> (try dsimp only)
         · omega
         · omega
         · (refine St.le_mk rfl (VwOs.mk (by decide) ?_) ?_ <;> (repeat' (first | exact trivial | exact vwR rfl | exact Vw.ro _ | exact Vw.ptr _ _ _ rfl | refine VwO.box' ?_ | refine ⟨⟨_, rfl, ?_⟩, ?_⟩ | refine ⟨?_, ?_⟩ ))))
      | (all_goals trace_state); fail
  · obtain rfl : j = k := by omega
    have kC := kC.yes l hl
    (repeat' (first | refine a_seq ?_ | refine a_block ?_ | refine a_ret ?_ | refine a_region ?_ | refine l_nil ?_ | (apply w_q; (focus (first | exact Q_move (by conv => lhs; whnf) | exact Q_assign (by conv => lhs; whnf) | exact Q_load_all rfl rfl KAg.h | exact Q_extract rfl (by conv => lhs; whnf))); (focus exact rfl)) | (refine a_cond rfl ?_ ?_ <;> (intro h; (try (have hp := of_decide_eq_true h)); (try (have hp := of_decide_eq_false h)); (try contradiction); (try (exfalso; omega)))) | ((refine w_callD (res := .tup [.own 0, .val (.bool true)]) (news := [.row 22 1 (rowc (tn l))]) (.inl ⟨rfl, rfl⟩) (kC) ?_ ?_ ?_ (by first | (dsimp only [List.cons_append, List.nil_append, List.append_nil, List.map, AO.sh, AV.sh, AV.shl, sh_ints, sh_rows, sh_pairs, sh_ords, List.length_cons, List.length_nil, Nat.reduceAdd, Nat.zero_add, Nat.add_zero]; done) | exact rfl) (by first | (dsimp only [AV.sh, AV.shl, sh_ints, sh_rows, sh_pairs, sh_ords, List.length_cons, List.length_nil, Nat.reduceAdd, Nat.zero_add, Nat.add_zero]; done) | exact rfl) rfl ?_; rotate_left 0; (focus exact rfl); (focus exact rfl); (focus ((repeat' (first | exact trivial | exact Vs.val _ | exact Vs.ro _ | refine Vs.agg' ?_ | refine ⟨?_, ?_⟩)); done)); rotate_left 1; all_goals (try (skip)))))); (try all_goals (try show retA _ _ _ _ _ _ _))
    all_goals first
      | (exfalso; omega)
      | (exfalso; simp at *; done)
      | (refine ⟨[_, _, _], [], ⟨resV_tmp (by conv => lhs; whnf), resV_tmp (by conv => lhs; whnf), resV_tmp (by conv => lhs; whnf), trivial⟩, VwOs.mk (by decide) trivial, ?_, rfl⟩; (repeat' (first | exact vwR rfl | exact vwRL rfl | exact Vw.rowro _ _ _ _ rfl (by decide) | refine Vw.tup' ?_ | refine ⟨?_, ?_⟩ )); done)
      | (all_goals trace_state); fail
end Go.Proofs.Ytgojkabjgagjcaa
