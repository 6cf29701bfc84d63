import Derived.Test.YtbgecpjlopdkfaaDoorIo
import Derived.Test.YtbgecpjlopdkfaaDoorFm
import Derived.Test.YtbgecpjlopdkfaaDoorEngZj
set_option linter.unusedSimpArgs false
set_option linter.unusedVariables false
set_option linter.unusedSectionVars false
set_option maxRecDepth 20000
namespace Go.Proofs.YtbgecpjlopdkfaaDoor
attribute [local irreducible] QOp aL aC qL
theorem GrowN_ac (N : Int) (h : 0 < N ∧ N ≤ 5000000000) : AC Tryd.prog 174 [.val (.slice none 0 0), .val (.int .i64 N)] [] (.own 0) [.row 22 1 (rowc [])] := by
  refine AC.mk (n := 27) (fn := Tryd.f174) Tryd.func174 (by kernel_rfl) rfl rfl rfl rfl (fun cx => ?_); dsimp only [argv, Nat.reduceAdd]
  (repeat' (first | refine a_seq ?_ | refine a_skip ?_ | refine a_ret ?_ | refine a_region ?_ | refine l_nil ?_ | (apply w_q; (focus (first | exact Q_move (by conv => lhs; whnf) | exact Q_assign (by conv => lhs; whnf) | exact Q_lss rfl rfl | exact Q_gtr rfl rfl | exact Q_sub rfl rfl (by omega) | exact Q_len_nil' rfl KSl.h)); (focus exact rfl)) | (refine a_cond rfl ?_ ?_ <;> (intro h; (try (have hp := of_decide_eq_true h)); (try (have hp := of_decide_eq_false h)); (try contradiction); (try (exfalso; omega)))) | (((first | apply w_q); (focus exact Q_cap_nil rfl KSl.h); (focus exact rfl))) | (((first | apply w_q); (focus exact Q_slice_nil rfl rfl KSl.h); (focus exact rfl))) | (refine w_apz rfl rfl KSl.h (by kernel_rfl) KMk.h (by omega) (by first|(dsimp only[obA,obB,obD,obE,obF,obG,obI,List.map,AO.sh,AV.sh,AV.shl,Nat.reduceAdd];done)|exact rfl) rfl rfl ?_) | (refine w_cut0 rfl rfl rfl KSl.h (by first|(dsimp only[obA,obB,obD,obE,obF,obG,obI,List.map,AO.sh,AV.sh,AV.shl,Nat.reduceAdd];done)|exact rfl) rfl rfl ?_))); (try all_goals (try show retA _ _ _ _ _ _ _))
  refine ⟨[_], [1], ⟨resV_tmp (by conv => lhs; whnf), trivial⟩, VwOs.mk (by decide) ⟨⟨_, rfl, .row _ _ _⟩, trivial⟩, ?_, rfl⟩
  (repeat' (first | exact Vw.own _ _ rfl))
def czIq (m j : List (List Int)) (k : Nat) : Nat := if k = 0 then 0 else if k = 1 then m.length else m.length + j.length
def cc (m j : List (List Int)) (k : Nat) : List (List Int) := if k = 0 then [] else if k = 1 then m else m ++ j
theorem cz_succ (m j : List (List Int)) {k : Nat} (h : k < 2) : czIq m j (k + 1) = czIq m j k + ([m, j].getD k []).length := by
  rcases (by omega : k = 0 ∨ k = 1) with rfl | rfl
  · exact (Nat.zero_add _).symm
  · rfl
theorem cc_succ (m j : List (List Int)) {k : Nat} (h : k < 2) : cc m j (k + 1) = cc m j k ++ [m, j].getD k [] := by
  rcases (by omega : k = 0 ∨ k = 1) with rfl | rfl <;> rfl
theorem Concat2_ac (m j : List (List Int)) (hm : m.length ≤ 1000) (hj : j.length ≤ 1000) (hpos : 0 < m.length + j.length) : AC Tryd.prog 157 [tabs [m, j]] [] (.own 0) [.row 22 1 (rowc (m ++ j))] := by
  have hlen : ∀ k, k < 2 → ([m, j].getD k []).length ≤ 1000 := fun k hk => by
    rcases (by omega : k = 0 ∨ k = 1) with rfl | rfl
    · exact hm
    · exact hj
  have hcz : ∀ k, k ≤ 2 → czIq m j k ≤ 2000 := fun k hk => by unfold czIq; split <;> (try split) <;> omega
  have hcc : ∀ k, (cc m j k).length = czIq m j k := fun k => by unfold czIq cc; split <;> (try split) <;> simp
  refine AC.mk (n := 36) (fn := Tryd.f157) Tryd.func157 (by kernel_rfl) rfl rfl rfl rfl (fun cx => ?_); dsimp only [argv, Nat.reduceAdd]
  (repeat' (first | refine a_seq ?_ | refine a_block ?_ | refine a_region ?_ | refine l_nil ?_ | (apply w_q; (focus (first | exact Q_move (by conv => lhs; whnf) | exact Q_assign (by conv => lhs; whnf))); (focus exact rfl)) | (((first | apply w_q); (focus exact Q_len_tabs rfl KSl.h); (focus exact rfl))))); (try all_goals (try show retA _ _ _ _ _ _ _))
  refine w_loop (X := Nat) [0, 9, 10] (by simp only [keepv, getv_cons, Nat.reduceEqDiff, ↓reduceIte]; exact rfl) (fun k => [(3, .val (.int .i64 (czIq m j k : Nat))), (11, .val (.int .i64 (k : Int)))]) (fun _ => []) (fun k => k ≤ 2) (fun k => 2 - k) (0) ([]) ?_ ?_ rfl ?_ <;> (try dsimp only [List.cons_append, List.nil_append])
  · exact Nat.zero_le _
  · (refine St.le_mk rfl (VwOs.mk (by decide) ?_) ?_ <;> (repeat' (first | exact trivial | exact vwR rfl | exact Vw.ro _ | refine ⟨?_, ?_⟩ )))
  · rintro k hk
    have h1 := hcz k hk
    by_cases hk2 : k < 2
    · have h2 := hlen k hk2
      (repeat' (first | refine a_seq ?_ | refine a_block ?_ | refine a_skip ?_ | refine a_exit ?_ | refine a_region ?_ | refine l_nil ?_ | (apply w_q; (focus (first | exact Q_move (by conv => lhs; whnf) | exact Q_assign (by conv => lhs; whnf) | exact Q_lss rfl rfl | exact Q_add rfl rfl (by omega) | exact Q_len_rows rfl KSl.h)); (focus exact rfl)) | (refine a_cond rfl ?_ ?_ <;> (intro h; (try (have hp := of_decide_eq_true h)); (try (have hp := of_decide_eq_false h)); (try contradiction); (try (exfalso; omega)))) | (((first | apply w_q); (focus exact Q_ix_tabs rfl rfl rfl KSl.h (by simp; omega)); (focus exact rfl))) | (((first | apply w_q); (focus exact Q_ld_tabs rfl (by simp; omega) KSc.h); (focus exact rfl))))); (try all_goals (try show retA _ _ _ _ _ _ _))
      all_goals first
        | (exfalso; simp at hp; omega)
        | (refine ⟨k + 1, [], ?_, ?_, ?_, rfl⟩ <;> (try dsimp only); (focus omega); (focus omega); (focus (rw [cz_succ m j hk2]; (refine St.le_mk rfl (VwOs.mk (by decide) ?_) ?_ <;> (repeat' (first | exact trivial | exact vwR rfl | exact Vw.ro _ | refine ⟨?_, ?_⟩ ))))))
    · obtain rfl : k = 2 := by omega
      have e2 : czIq m j 2 = m.length + j.length := rfl
      (repeat' (first | refine a_seq ?_ | refine a_block ?_ | refine a_exit ?_ | refine a_region ?_ | refine l_nil ?_ | (apply w_q; (focus (first | exact Q_move (by conv => lhs; whnf) | exact Q_assign (by conv => lhs; whnf) | exact Q_lss rfl rfl)); (focus exact rfl)) | (refine a_cond rfl ?_ ?_ <;> (intro h; (try (have hp := of_decide_eq_true h)); (try (have hp := of_decide_eq_false h)); (try contradiction); (try (exfalso; omega)))) | ((refine w_callD (res := .own 0) (news := [.row 22 1 (rowc [])]) (.inl ⟨rfl, rfl⟩) (GrowN_ac (czIq m j 2 : Nat) ?_) ?_ ?_ ?_ (by first | (dsimp only [List.cons_append, List.nil_append, List.append_nil, List.map, AO.sh, AV.sh, AV.shl, sh_ints, sh_rows, sh_pairs, sh_ords, List.length_cons, List.length_nil, Nat.reduceAdd, Nat.zero_add, Nat.add_zero]; done) | exact rfl) (by first | (dsimp only [AV.sh, AV.shl, sh_ints, sh_rows, sh_pairs, sh_ords, List.length_cons, List.length_nil, Nat.reduceAdd, Nat.zero_add, Nat.add_zero]; done) | exact rfl) rfl ?_; rotate_left 1; (focus exact rfl); (focus exact rfl); (focus ((repeat' (first | exact trivial | exact Vs.val _ | refine ⟨?_, ?_⟩)); done)); rotate_left 1; all_goals (try ((omega))))) | (((first | apply w_q); (focus exact Q_len_tabs rfl KSl.h); (focus exact rfl))))); (try all_goals (try show retA _ _ _ _ _ _ _))
      refine w_loop (X := Nat) [25, 26] (by simp only [keepv, getv_cons, Nat.reduceEqDiff, ↓reduceIte]; exact rfl) (fun k => [(6, .own 0), (27, .val (.int .i64 (k : Int)))]) (fun k => [.row 22 1 (rowc (cc m j k))]) (fun k => k ≤ 2) (fun k => 2 - k) (0) ([0]) ?_ ?_ rfl ?_ <;> (try dsimp only [List.cons_append, List.nil_append])
      · exact Nat.zero_le _
      · (refine St.le_mk rfl (VwOs.mk (by decide) ?_) ?_ <;> (repeat' (first | exact trivial | exact vwR rfl | exact Vw.own _ _ rfl | exact VwO.row _ _ _ | refine ⟨⟨_, rfl, ?_⟩, ?_⟩ | refine ⟨?_, ?_⟩ )))
      · rintro k hk
        by_cases hk2 : k < 2
        · have h2 := hlen k hk2
          have h3 := hcz k hk
          have h4 := hcc k
          (repeat' (first | refine a_seq ?_ | refine a_block ?_ | refine a_skip ?_ | refine a_ret ?_ | refine a_exit ?_ | refine a_region ?_ | refine l_nil ?_ | (apply w_q; (focus (first | exact Q_move (by conv => lhs; whnf) | exact Q_assign (by conv => lhs; whnf) | exact Q_lss rfl rfl | exact Q_add rfl rfl (by omega))); (focus exact rfl)) | (refine a_cond rfl ?_ ?_ <;> (intro h; (try (have hp := of_decide_eq_true h)); (try (have hp := of_decide_eq_false h)); (try contradiction); (try (exfalso; omega)))) | (((first | apply w_q); (focus exact Q_ix_tabs rfl rfl rfl KSl.h (by simp; omega)); (focus exact rfl))) | (((first | apply w_q); (focus exact Q_ld_tabs rfl (by simp; omega) KSc.h); (focus exact rfl))) | (refine w_ap_rows rfl rfl (.inl rfl) KSl.h KMk.h (by omega) (by first|(dsimp only[obA,obB,obD,obE,obF,obG,obI,List.map,AO.sh,AV.sh,AV.shl,Nat.reduceAdd];done)|exact rfl) (by first|(dsimp only[obA,obB,obD,obE,obF,obG,obI,List.map,AO.sh,AV.sh,AV.shl,Nat.reduceAdd];done)|exact rfl) rfl ?_))); (try all_goals (try show retA _ _ _ _ _ _ _))
          all_goals first
            | (exfalso; simp at hp; omega)
            | (refine ⟨k + 1, [1], ?_, ?_, ?_, rfl⟩ <;> (try dsimp only); (focus omega); (focus omega); (focus (rw [cc_succ m j hk2]; (refine St.le_mk rfl (VwOs.mk (by decide) ?_) ?_ <;> (repeat' (first | exact trivial | exact vwR rfl | exact Vw.own _ _ rfl | exact VwO.row _ _ _ | refine ⟨⟨_, rfl, ?_⟩, ?_⟩ | refine ⟨?_, ?_⟩ ))))))
        · obtain rfl : k = 2 := by omega
          (repeat' (first | refine a_seq ?_ | refine a_ret ?_ | refine a_exit ?_ | refine a_region ?_ | refine l_nil ?_ | (apply w_q; (focus (first | exact Q_move (by conv => lhs; whnf) | exact Q_assign (by conv => lhs; whnf) | exact Q_lss rfl rfl)); (focus exact rfl)) | (refine a_cond rfl ?_ ?_ <;> (intro h; (try (have hp := of_decide_eq_true h)); (try (have hp := of_decide_eq_false h)); (try contradiction); (try (exfalso; omega)))))); (try all_goals (try show retA _ _ _ _ _ _ _))
          refine ⟨[_], [0], ⟨resV_tmp (by conv => lhs; whnf), trivial⟩, VwOs.mk (by decide) ⟨⟨_, rfl, .row _ _ _⟩, trivial⟩, ?_, rfl⟩
          (repeat' (first | exact Vw.own _ _ rfl))
def badLn (N : Int) (r : List Int) : Bool := decide ((r.length : Int) ≠ N)
theorem lrows1_ac (N : Int) (r : List Int) (hr : r.length ≤ 9223372036854775807) : AC Tryd.prog 173 [ints r, .rpt [.val (.int .i64 N)] 0] [] (.val (.bool (badLn N r))) [] := by
  refine AC.mk (n := 8) (fn := Tryd.f173) Tryd.func173 (by kernel_rfl) rfl rfl rfl rfl (fun cx => ?_); dsimp only [argv, Nat.reduceAdd]
  (repeat' (first | refine a_seq ?_ | refine a_ret ?_ | refine a_region ?_ | refine l_nil ?_ | (apply w_q; (focus (first | exact Q_move (by conv => lhs; whnf) | exact Q_assign (by conv => lhs; whnf) | exact Q_neq rfl rfl | exact Q_ld_rv rfl rfl KSc.h | exact Q_len_ints rfl KSl.h)); (focus exact rfl)))); (try all_goals (try show retA _ _ _ _ _ _ _))
  refine ⟨[_], [], ⟨resV_tmp (by conv => lhs; whnf), trivial⟩, VwOs.mk (by decide) trivial, ?_, rfl⟩
  exact Vw.val _
theorem lrows_ac (t : List (List Int)) (N : Int) (hl : t.length ≤ 9223372036854775807) (hf : ∀ r ∈ t, r.length ≤ 9223372036854775807) : AC Tryd.prog 156 [rows t, .val (.int .i64 N)] [] (.val (.bool (formB N t))) [] := by
  have hR := ContainsR_ac (isFn_clo 173 [.rpt [.val (.int .i64 N)] 0]) (badLn N) t hl (fun r hr => lrows1_ac N r (hf r hr))
  have e : formB N t = (decide ((t.length : Int) = N) && !t.any (badLn N)) := rfl
  rw [e]
  refine AC.mk (n := 15) (fn := Tryd.f156) Tryd.func156 (by kernel_rfl) rfl rfl rfl rfl (fun cx => ?_); dsimp only [argv, Nat.reduceAdd]
  (repeat' (first | refine a_seq ?_ | refine a_ret ?_ | refine a_region ?_ | refine l_nil ?_ | (apply w_q; (focus (first | exact Q_move (by conv => lhs; whnf) | exact Q_assign (by conv => lhs; whnf) | exact Q_load_ptr rfl rfl rfl KSc.h | exact Q_eql rfl rfl | exact Q_len_rows rfl KSl.h | exact Q_not rfl | exact Q_pick_t rfl (by assumption) (by conv => lhs; whnf) | exact Q_pick_f rfl (by assumption) (by conv => lhs; whnf) | exact Q_clo1 (by conv => lhs; whnf))); (focus exact rfl)) | refine w_guard_y rfl rfl rfl (by first | assumption | rfl) ?_ | refine w_guard_n rfl rfl rfl (by first | assumption | rfl) ?_ | (refine w_guard rfl rfl rfl ?_ ?_ <;> (intro h; (try (have hp := of_decide_eq_true h)); (try (have hp := of_decide_eq_false h)); (try contradiction); (try (exfalso; omega)))) | refine w_box1 (by conv => lhs; whnf) rfl rfl (by first|(dsimp only[obA,obB,obD,obE,obF,obG,obI,List.map,AO.sh,AV.sh,AV.shl,Nat.reduceAdd];done)|exact rfl) (by first|(dsimp only[obA,obB,obD,obE,obF,obG,obI,List.map,AO.sh,AV.sh,AV.shl,Nat.reduceAdd];done)|exact rfl) rfl ?_ | (((first | apply w_q); (focus (refine Q_call (.inl ⟨rfl, rfl⟩) (hR) ?_; ((repeat' (first | exact trivial | exact Vw.ro _ | exact Vw.valro _ | refine Vw.clo' ?_ | refine Vw.boxrpt' rfl (by decide) ?_ | exact Nat.le_of_ble_eq_true rfl | refine ⟨?_, ?_⟩ )); done))); (focus exact rfl))))); (try all_goals (try show retA _ _ _ _ _ _ _))
  all_goals
    refine ⟨[_], [], ⟨resV_tmp (by conv => lhs; whnf), trivial⟩, VwOs.mk (by decide) trivial, ?_, rfl⟩
    exact Vw.bool' (by first | (rw [decide_eq_true hp, Bool.true_and]) | (rw [decide_eq_false hp, Bool.false_and]))
end Go.Proofs.YtbgecpjlopdkfaaDoor
