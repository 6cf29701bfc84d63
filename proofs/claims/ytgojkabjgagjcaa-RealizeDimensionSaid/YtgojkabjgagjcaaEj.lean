import Derived.Test.YtgojkabjgagjcaaEg
import Derived.Test.YtgojkabjgagjcaaHf
import Derived.Test.YtgojkabjgagjcaaEa
import Derived.Test.YtgojkabjgagjcaaCd
import Derived.Test.YtgojkabjgagjcaaGc
set_option linter.unusedSimpArgs false
set_option linter.unusedVariables false
set_option linter.unusedSectionVars false
set_option maxRecDepth 20000
namespace Go.Proofs.Ytgojkabjgagjcaa
attribute [local irreducible] QOp aL aC qL
/-- The order in which nothing is below anything. -/
def noO (n : Nat) : List Nat := List.replicate n 0
theorem noO_vld (n : Nat) : Vld n (noO n) := Vld.rep n
theorem noO_get (n k : Nat) : (noO n).getD k 0 = 0 := by
  unfold noO
  rw [List.getD_eq_getElem?_getD, List.getElem?_replicate]
  split <;> rfl
theorem noO_lt (n a b : Nat) : lt (noO n) a b = false := by unfold lt; rw [noO_get]; exact Nat.zero_testBit a
/-- Is it a row of n points? -/
def pmB (n : Nat) (l : List Int) : Bool := isRow n (noO n) l
theorem pm_iff {n : Nat} {l : List Int} : pmB n l = true ↔ ∃ r : List Nat, l = nl r ∧ r.Perm (List.range n) := by
  unfold pmB
  constructor
  · intro h
    obtain ⟨r, e, hr⟩ := isRow_nat h
    have hI := (rowI (noO_vld n)).1 hr
    exact ⟨r, e, full_perm hI.len hI.all⟩
  · rintro ⟨r, rfl, hp⟩
    refine row_is ((rowI (noO_vld n)).2 ⟨by rw [hp.length_eq, List.length_range], fun p h => hp.mem_iff.2 (List.mem_range.2 h), fun a b _ h => by rw [noO_lt] at h; cases h⟩)
theorem pm_len {n : Nat} {l : List Int} (h : pmB n l = true) : l.length = n := by
  obtain ⟨r, rfl, hp⟩ := pm_iff.1 h
  rw [nl_len, hp.length_eq, List.length_range]
theorem pm_mem {n : Nat} {l : List Int} : pmB n l = true ↔ l.length = n ∧ ∀ p, p < n → ((p : Nat) : Int) ∈ l := by
  constructor
  · intro h
    refine ⟨pm_len h, fun p hp => ?_⟩
    obtain ⟨r, rfl, hp'⟩ := pm_iff.1 h
    exact List.mem_map.2 ⟨p, hp'.mem_iff.2 (List.mem_range.2 hp), rfl⟩
  · rintro ⟨hl, hm⟩
    have hper : (nl (List.range n)).Perm l := by
      refine nd_perm _ _ ?_ (fun x hx => ?_) (by rw [nl_len, List.length_range]; omega)
      · unfold nl
        rw [List.nodup_iff_pairwise_ne, List.pairwise_map]
        exact (List.nodup_iff_pairwise_ne.1 (List.nodup_range (n := n))).imp fun h e => h (by omega)
      · obtain ⟨p, hp, rfl⟩ := List.mem_map.1 hx
        exact hm p (List.mem_range.1 hp)
    have hnn : ∀ x ∈ l, 0 ≤ x := fun x hx => by
      obtain ⟨p, _, rfl⟩ := List.mem_map.1 (hper.mem_iff.2 hx)
      exact Int.natCast_nonneg p
    have e : l = nl (l.map Int.toNat) := by
      unfold nl
      rw [List.map_map]
      have : l.map (((fun n : Nat => (n : Int))) ∘ Int.toNat) = l.map id := List.map_congr_left fun x hx => by
        show ((x.toNat : Nat) : Int) = x
        have := hnn x hx
        omega
      rw [this, List.map_id]
    refine pm_iff.2 ⟨_, e, ?_⟩
    have h2 := hper.map Int.toNat
    rw [show (nl (List.range n)).map Int.toNat = List.range n from nl_map _] at h2
    exact h2.symm
set_option maxRecDepth 20000 in
set_option maxHeartbeats 2000000 in
theorem IsPerm_ac (n : Nat) (l : List Int) (hn : n ≤ 10) (hl : l.length ≤ 9223372036854775807) : AC Try.prog 28 [.val (.int .i64 n), ints l] [] (.val (.bool (pmB n l))) [] := by
  have hno : (l.length : Int) ≠ n → pmB n l = false := fun h => by
    cases hq : pmB n l
    · rfl
    · exact absurd (by rw [pm_len hq]) h
  by_cases hln : (l.length : Int) = n
  · have hP := fun (x : Nat) => PlaceC_ac l (x : Int) hl
    refine AC.mk (n := 19) (fn := Try.f28) Try.func28 (by kernel_rfl) rfl rfl rfl rfl (fun cx => ?_); dsimp only [argv, Nat.reduceAdd]
    (repeat' (first | refine a_seq ?_ | refine a_block ?_ | refine a_skip ?_ | refine a_region ?_ | refine l_nil ?_ | (apply w_q; (focus (first | exact Q_move (by conv => lhs; whnf) | exact Q_assign (by conv => lhs; whnf) | exact Q_neq rfl rfl | exact Q_len_ints rfl KSl.h)); (focus exact rfl)) | (refine a_cond rfl ?_ ?_ <;> (intro h; (try (have hp := of_decide_eq_true h)); (try (have hp := of_decide_eq_false h)); (try contradiction); (try (exfalso; omega)))))); (try all_goals (try show retA _ _ _ _ _ _ _))
    all_goals first
      | (exfalso; omega)
      | skip
    refine w_loop (X := Nat) [0, 1] (by simp only [keepv, getv_cons, Nat.reduceEqDiff, ↓reduceIte]; exact rfl) (fun j => [(5, .val (.int .i64 (j : Nat)))]) (fun _ => []) (fun j => j ≤ n ∧ ∀ p, p < j → ((p : Nat) : Int) ∈ l) (fun j => n - j) (0) ([]) ?_ ?_ rfl ?_ <;> (try dsimp only [List.cons_append, List.nil_append])
    · exact ⟨Nat.zero_le _, fun _ h => by omega⟩
    · (refine St.le_mk rfl (VwOs.mk (by decide) ?_) ?_ <;> (repeat' (first | exact trivial | exact vwR rfl | exact Vw.ro _ | refine ⟨?_, ?_⟩ )))
    rintro j ⟨hj, hall⟩
    by_cases hjn : j < n
    · have hP := hP j
      by_cases hm : ((j : Nat) : Int) ∈ l
      · have hnn : 0 ≤ idx (fun y => decide (y = ((j : Nat) : Int))) l := by
          obtain ⟨i, hi, e⟩ := List.getElem_of_mem hm
          unfold idx
          cases hf : l.findIdx? (fun y => decide (y = ((j : Nat) : Int))) with
          | none =>
            have := List.findIdx?_eq_none_iff.1 hf _ hm
            simp at this
          | some i => exact Int.natCast_nonneg i
        generalize idx (fun y => decide (y = ((j : Nat) : Int))) l = v at *
        (repeat' (first | refine a_seq ?_ | refine a_block ?_ | refine a_skip ?_ | refine a_region ?_ | refine l_nil ?_ | (apply w_q; (focus (first | exact Q_move (by conv => lhs; whnf) | exact Q_assign (by conv => lhs; whnf) | exact Q_lss rfl rfl | exact Q_add rfl rfl (by omega))); (focus exact rfl)) | (refine a_cond rfl ?_ ?_ <;> (intro h; (try (have hp := of_decide_eq_true h)); (try (have hp := of_decide_eq_false h)); (try contradiction); (try (exfalso; omega)))) | (((first | apply w_q); (focus (refine Q_call (.inl ⟨rfl, rfl⟩) (hP) ?_; ((repeat' (first | exact vwRL rfl | exact Vw.ro _ | refine ⟨?_, ?_⟩ )); done))); (focus exact rfl))))); (try all_goals (try show retA _ _ _ _ _ _ _))
        all_goals first
          | (exfalso; omega)
          | (refine ⟨j + 1, [], ?_, ?_, ?_, rfl⟩ <;> (try dsimp only)
             · exact ⟨by omega, fun p hp => by
                 by_cases e : p = j
                 · subst e; exact hm
                 · exact hall p (by omega)⟩
             · omega
             · (refine St.le_mk rfl (VwOs.mk (by decide) ?_) ?_ <;> (repeat' (first | exact trivial | exact vwR rfl | exact Vw.ro _ | refine ⟨?_, ?_⟩ ))))
          | (all_goals trace_state); fail
      · have hv : idx (fun y => decide (y = ((j : Nat) : Int))) l = -1 := idx_none fun i hi => decide_eq_false fun e => hm (by rw [← e]; exact List.getElem_mem hi)
        rw [hv] at hP
        have hF : pmB n l = false := by
          cases hq : pmB n l
          · rfl
          · exact absurd ((pm_mem.1 hq).2 j hjn) hm
        rw [hF]
        (repeat' (first | refine a_seq ?_ | refine a_block ?_ | refine a_skip ?_ | refine a_ret ?_ | refine a_region ?_ | refine l_nil ?_ | (apply w_q; (focus (first | exact Q_move (by conv => lhs; whnf) | exact Q_assign (by conv => lhs; whnf) | exact Q_lss rfl rfl)); (focus exact rfl)) | (refine a_cond rfl ?_ ?_ <;> (intro h; (try (have hp := of_decide_eq_true h)); (try (have hp := of_decide_eq_false h)); (try contradiction); (try (exfalso; omega)))) | (((first | apply w_q); (focus (refine Q_call (.inl ⟨rfl, rfl⟩) (hP) ?_; ((repeat' (first | exact vwRL rfl | exact Vw.ro _ | refine ⟨?_, ?_⟩ )); done))); (focus exact rfl))))); (try all_goals (try show retA _ _ _ _ _ _ _))
        all_goals first
          | (exfalso; omega)
          | (refine ⟨[_], [], ⟨resV_tmp (by conv => lhs; whnf), trivial⟩, VwOs.mk (by decide) trivial, ?_, rfl⟩; (repeat' (first | exact vwR rfl)); done)
          | (all_goals trace_state); fail
    · obtain rfl : j = n := by omega
      rw [pm_mem.2 ⟨by omega, hall⟩]
      (repeat' (first | refine a_seq ?_ | refine a_ret ?_ | refine a_exit ?_ | refine a_region ?_ | refine l_nil ?_ | (apply w_q; (focus (first | exact Q_move (by conv => lhs; whnf) | exact Q_assign (by conv => lhs; whnf) | exact Q_lss rfl rfl)); (focus exact rfl)) | (refine a_cond rfl ?_ ?_ <;> (intro h; (try (have hp := of_decide_eq_true h)); (try (have hp := of_decide_eq_false h)); (try contradiction); (try (exfalso; omega)))))); (try all_goals (try show retA _ _ _ _ _ _ _))
      all_goals first
        | (exfalso; omega)
        | (refine ⟨[_], [], ⟨resV_tmp (by conv => lhs; whnf), trivial⟩, VwOs.mk (by decide) trivial, ?_, rfl⟩; (repeat' (first | exact vwR rfl)); done)
        | (all_goals trace_state); fail
  · rw [hno hln]
    refine AC.mk (n := 19) (fn := Try.f28) Try.func28 (by kernel_rfl) rfl rfl rfl rfl (fun cx => ?_); dsimp only [argv, Nat.reduceAdd]
    (repeat' (first | refine a_seq ?_ | refine a_ret ?_ | refine a_region ?_ | refine l_nil ?_ | (apply w_q; (focus (first | exact Q_move (by conv => lhs; whnf) | exact Q_assign (by conv => lhs; whnf) | exact Q_neq rfl rfl | exact Q_len_ints rfl KSl.h)); (focus exact rfl)) | (refine a_cond rfl ?_ ?_ <;> (intro h; (try (have hp := of_decide_eq_true h)); (try (have hp := of_decide_eq_false h)); (try contradiction); (try (exfalso; omega)))))); (try all_goals (try show retA _ _ _ _ _ _ _))
    all_goals first
      | (exfalso; omega)
      | (refine ⟨[_], [], ⟨resV_tmp (by conv => lhs; whnf), trivial⟩, VwOs.mk (by decide) trivial, ?_, rfl⟩; (repeat' (first | exact vwR rfl)); done)
      | (all_goals trace_state); fail
end Go.Proofs.Ytgojkabjgagjcaa
set_option linter.unusedSimpArgs false
set_option linter.unusedVariables false
set_option linter.unusedSectionVars false
set_option maxRecDepth 20000
namespace Go.Proofs.Ytgojkabjgagjcaa
attribute [local irreducible] QOp aL aC qL
/-- Is a point ahead of another one in all rows? -/
def ordR (R : List (List Nat)) (a b : Nat) : Bool := R.all fun r => decide (r.idxOf a < r.idxOf b)
def natR (rows : List (List Int)) : List (List Nat) := rows.map fun r => r.map Int.toNat
theorem natR_row {n : Nat} {l : List Int} (h : pmB n l = true) : l = nl (l.map Int.toNat) ∧ (l.map Int.toNat).Perm (List.range n) := by
  obtain ⟨r, rfl, hp⟩ := pm_iff.1 h
  rw [nl_map]
  exact ⟨rfl, hp⟩
/-- The sets Below, with i rows done, and of the next one j points. -/
def bwS (n : Nat) (R : List (List Nat)) (i j : Nat) : List Nat := (List.range n).map fun p => if (R.getD i []).idxOf p < j then bs (fun a => ordR (R.take (i + 1)) a p) n else if i = 0 then 0 else bs (fun a => ordR (R.take i) a p) n
end Go.Proofs.Ytgojkabjgagjcaa
set_option linter.unusedSimpArgs false
set_option linter.unusedVariables false
set_option linter.unusedSectionVars false
set_option maxRecDepth 20000
namespace Go.Proofs.Ytgojkabjgagjcaa
attribute [local irreducible] QOp aL aC qL
attribute [local irreducible] FOp POp hL xH
theorem Of_many (n : Int) (rows' : List (List Int)) (hl : rows'.length ≤ 9223372036854775807) (h : n < 0 ∨ 10 < n ∨ rows'.length = 0 ∨ 10 < rows'.length) : AC Try.prog 14 [.val (.int .i64 n), rows rows'] [] (.tup [ordv 0 [], .val (.int .i64 2)]) [] := by
  refine AC.mk (n := 73) (fn := Try.f14) Try.func14 (by kernel_rfl) rfl rfl rfl rfl (fun cx => ?_); dsimp only [argv, Nat.reduceAdd]
  (repeat' (first | refine a_seq ?_ | refine a_ret ?_ | refine a_region ?_ | refine l_nil ?_ | (apply w_q; (focus (first | exact Q_move (by conv => lhs; whnf) | exact Q_assign (by conv => lhs; whnf) | exact Q_lss rfl rfl | exact Q_gtr rfl rfl | exact Q_eql rfl rfl | exact Q_build0 KBd.h (by simp only [List.map_cons, List.map_nil, List.take_succ_cons, List.take_zero, List.drop_succ_cons, List.drop_zero, List.drop_nil, List.nil_append, List.cons_append, List.append_nil, List.length_cons, List.length_nil, Nat.reduceAdd, Nat.reduceMul]; exact rfl) | exact Q_len_rows rfl KSl.h | exact Q_pick_t rfl (by assumption) (by conv => lhs; whnf) | exact Q_pick_f rfl (by assumption) (by conv => lhs; whnf) | exact Q_pick_t rfl rfl (by conv => lhs; whnf))); (focus exact rfl)) | (refine a_cond rfl ?_ ?_ <;> (intro h; (try (have hp := of_decide_eq_true h)); (try (have hp := of_decide_eq_false h)); (try contradiction); (try (exfalso; omega)))) | refine w_guard_y rfl rfl rfl (by first | assumption | rfl) ?_ | refine w_guard_n rfl rfl rfl (by first | assumption | rfl) ?_ | (refine w_guard rfl rfl rfl ?_ ?_ <;> (intro h; (try (have hp := of_decide_eq_true h)); (try (have hp := of_decide_eq_false h)); (try contradiction); (try (exfalso; omega)))) | refine w_alloc KMk.h (by first|(dsimp only[obA,obB,obD,obE,obF,obG,obI,List.map,AO.sh,AV.sh,AV.shl,Nat.reduceAdd];done)|exact rfl) rfl (by first|(dsimp only[obA,obB,obD,obE,obF,obG,obI,List.map,AO.sh,AV.sh,AV.shl,Nat.reduceAdd];done)|exact rfl) (by first|(dsimp only[obA,obB,obD,obE,obF,obG,obI,List.map,AO.sh,AV.sh,AV.shl,Nat.reduceAdd];done)|exact rfl) rfl ?_ | refine w_store_all rfl rfl rfl rfl rfl KSz.h (by first|(dsimp only[obA,obB,obD,obE,obF,obG,obI,List.map,AO.sh,AV.sh,AV.shl,Nat.reduceAdd];done)|exact rfl) ?_)); (try all_goals (try show retA _ _ _ _ _ _ _))
  all_goals first
    | (exfalso; omega)
    | (refine ⟨[_, _], [], ⟨resV_cell rfl rfl KAg.h, resV_tmp (by conv => lhs; whnf), trivial⟩, VwOs.mk (by decide) trivial, ?_, rfl⟩; (repeat' (first | exact trivial | exact vwR rfl | exact vwRL rfl | exact Vw.nilro _ | refine Vw.agg' ?_ | refine Vw.tup' ?_ | refine ⟨?_, ?_⟩ )); done)
    | (all_goals trace_state); fail
theorem ROrd_many (n : Int) (rows' : List (List Int)) (hl : rows'.length ≤ 9223372036854775807) (h : n < 0 ∨ 10 < n ∨ rows'.length = 0 ∨ 10 < rows'.length) : AC Try.prog 16 [.val (.int .i64 n), rows rows'] [] (.tup [ordv 0 [], .val (.int .i64 2)]) [] := by
  refine AC.mk (n := 41) (fn := Try.f16) Try.func16 (by kernel_rfl) rfl rfl rfl rfl (fun cx => ?_); dsimp only [argv, Nat.reduceAdd]
  (repeat' (first | refine a_seq ?_ | refine a_ret ?_ | refine a_region ?_ | refine l_nil ?_ | (apply w_q; (focus (first | exact Q_move (by conv => lhs; whnf) | exact Q_assign (by conv => lhs; whnf) | exact Q_load_ptr rfl rfl rfl KSc.h | exact Q_lss rfl rfl | exact Q_gtr rfl rfl | exact Q_eql rfl rfl | exact Q_build0 KBd.h (by simp only [List.map_cons, List.map_nil, List.take_succ_cons, List.take_zero, List.drop_succ_cons, List.drop_zero, List.drop_nil, List.nil_append, List.cons_append, List.append_nil, List.length_cons, List.length_nil, Nat.reduceAdd, Nat.reduceMul]; exact rfl) | exact Q_len_rows rfl KSl.h | exact Q_pick_t rfl (by assumption) (by conv => lhs; whnf) | exact Q_pick_f rfl (by assumption) (by conv => lhs; whnf) | exact Q_pick_t rfl rfl (by conv => lhs; whnf))); (focus exact rfl)) | (refine a_cond rfl ?_ ?_ <;> (intro h; (try (have hp := of_decide_eq_true h)); (try (have hp := of_decide_eq_false h)); (try contradiction); (try (exfalso; omega)))) | refine w_guard_y rfl rfl rfl (by first | assumption | rfl) ?_ | refine w_guard_n rfl rfl rfl (by first | assumption | rfl) ?_ | (refine w_guard rfl rfl rfl ?_ ?_ <;> (intro h; (try (have hp := of_decide_eq_true h)); (try (have hp := of_decide_eq_false h)); (try contradiction); (try (exfalso; omega)))) | refine w_box1 (by conv => lhs; whnf) rfl rfl (by first|(dsimp only[obA,obB,obD,obE,obF,obG,obI,List.map,AO.sh,AV.sh,AV.shl,Nat.reduceAdd];done)|exact rfl) (by first|(dsimp only[obA,obB,obD,obE,obF,obG,obI,List.map,AO.sh,AV.sh,AV.shl,Nat.reduceAdd];done)|exact rfl) rfl ?_ | refine w_alloc KMk.h (by first|(dsimp only[obA,obB,obD,obE,obF,obG,obI,List.map,AO.sh,AV.sh,AV.shl,Nat.reduceAdd];done)|exact rfl) rfl (by first|(dsimp only[obA,obB,obD,obE,obF,obG,obI,List.map,AO.sh,AV.sh,AV.shl,Nat.reduceAdd];done)|exact rfl) (by first|(dsimp only[obA,obB,obD,obE,obF,obG,obI,List.map,AO.sh,AV.sh,AV.shl,Nat.reduceAdd];done)|exact rfl) rfl ?_ | refine w_store_all rfl rfl rfl rfl rfl KSz.h (by first|(dsimp only[obA,obB,obD,obE,obF,obG,obI,List.map,AO.sh,AV.sh,AV.shl,Nat.reduceAdd];done)|exact rfl) ?_)); (try all_goals (try show retA _ _ _ _ _ _ _))
  all_goals first
    | (exfalso; omega)
    | (refine ⟨[_, _], [], ⟨resV_cell rfl rfl KAg.h, resV_tmp (by conv => lhs; whnf), trivial⟩, VwOs.mk (by decide) trivial, ?_, rfl⟩; (repeat' (first | exact trivial | exact vwR rfl | exact vwRL rfl | exact Vw.nilro _ | refine Vw.agg' ?_ | refine Vw.tup' ?_ | refine ⟨?_, ?_⟩ )); done)
    | (all_goals trace_state); fail
end Go.Proofs.Ytgojkabjgagjcaa
