import Derived.Test.YtbgecpjlopdkfaaDoorVm
import Derived.Test.YtbgecpjlopdkfaaDoorSsl
set_option linter.unusedSimpArgs false
set_option linter.unusedVariables false
set_option linter.unusedSectionVars false
set_option maxRecDepth 20000
namespace Go.Proofs.YtbgecpjlopdkfaaDoor
attribute [local irreducible] QOp aL aC qL
/-- What the sums of the walk stay below. -/
theorem kr_le {n d : Nat} (hn10 : n ≤ 10) {k p : Int} {l : List Tr} (hd : 1 + kdep l ≤ d + 1) (hf : (Tr.mk k p l).frm = 0) (hn : (Tr.mk k p l).pts.Nodup) (hr : ∀ x ∈ (Tr.mk k p l).pts, ∃ i : Nat, i < n ∧ x = (i : Int)) (hk : k ≠ 1) :
    ∀ i, i ≤ l.length → krN (rwF d) k l i ≤ 10000000000 := by
  obtain ⟨h1, h2, h3⟩ := frm_kids hf
  have ep : (Tr.mk k p l).pts = kpts l := by unfold Tr.pts; rw [if_neg hk]
  rw [ep] at hn hr
  intro i hi
  rw [← kr_E (n := n) (d := d) (k := k) (p := p) (l := l) (by omega) hn hr (fun i hi => by
    refine rw_E d (l.getD i t000) (by have := dep_kidD hi; omega) (by rw [getDT hi]; exact kfrm_get h3 hi) (kpts_ndk hn hi) fun x hx => hr x (kpts_find.2 ⟨i, hi, hx⟩)) i hi]
  exact eS_le hn10 _ _
set_option maxRecDepth 20000 in
set_option maxHeartbeats 4000000 in
theorem rowsT_ac (n : Nat) (hn10 : n ≤ 10) : ∀ (d : Nat) (k p : Int) (l : List Tr), 1 + kdep l ≤ d → 1 + kcnt l ≤ 100000000 → (Tr.mk k p l).frm = 0 → (Tr.mk k p l).pts.Nodup → (∀ x ∈ (Tr.mk k p l).pts, ∃ i : Nat, i < n ∧ x = (i : Int)) → (Tr.mk k p l).pts.length ≤ 10 →
    AC Tryd.prog 72 [ta3 k p l] [] (.tup [.val (.int .i64 ((Tr.mk k p l).pts.length : Nat)), .val (.int .i64 (rwF d (.mk k p l) : Nat))]) []
  | 0, k, p, l, hd, _, _, _, _, _ => by omega
  | d + 1, k, p, l, hd, hb, hf, hn, hr, hlen => by
    have ih := rowsT_ac n hn10 d
    have hll := kcnt_len l
    obtain ⟨f1, f2, f3⟩ := frm_kids hf
    by_cases hk1 : k = 1
    · subst hk1
      have hl : l = [] := List.length_eq_zero_iff.1 (by omega)
      subst hl
      have ep : (Tr.mk 1 p []).pts = [p] := by unfold Tr.pts; rw [if_pos rfl]
      rw [ep]
      exact rowsS_pt p []
    have hkr := kr_le hn10 hd hf hn hr hk1
    have ep : (Tr.mk k p l).pts = kpts l := by unfold Tr.pts; rw [if_neg hk1]
    have er : rwF (d + 1) (.mk k p l) = krN (rwF d) k l l.length := by
      show (if k = 1 then 1 else krN (rwF d) k l l.length) = _
      rw [if_neg hk1]
    rw [er]
    rw [ep] at hn hr hlen ⊢
    have hks : ∀ i, (kpts (l.take i)).length ≤ 10 := fun i => Nat.le_trans (kpts_mono l i) hlen
    unfold ta3 at ih ⊢
    refine AC.mk (n := 47) (fn := Tryd.f72) Tryd.func72 (by kernel_rfl) rfl rfl rfl rfl (fun cx => ?_); dsimp only [argv, Nat.reduceAdd]
    (repeat' (first | refine a_seq ?_ | refine a_block ?_ | refine a_skip ?_ | refine a_region ?_ | refine l_nil ?_ | (apply w_q; (focus (first | exact Q_move (by conv => lhs; whnf) | exact Q_assign (by conv => lhs; whnf) | exact Q_fieldAddr_ptr rfl KFl.h | exact Q_load_ptr rfl rfl rfl KSc.h | exact Q_eql rfl rfl)); (focus exact rfl)) | (refine a_cond rfl ?_ ?_ <;> (intro h; (try (have hp := of_decide_eq_true h)); (try (have hp := of_decide_eq_false h)); (try contradiction); (try (exfalso; omega)))) | refine w_box rfl rfl (by first|(dsimp only[obA,obB,obD,obE,obF,obG,obI,List.map,AO.sh,AV.sh,AV.shl,Nat.reduceAdd];done)|exact rfl) (by first|(dsimp only[obA,obB,obD,obE,obF,obG,obI,List.map,AO.sh,AV.sh,AV.shl,Nat.reduceAdd];done)|exact rfl) rfl ?_ | (((first | apply w_q); (focus exact Q_len_kid rfl KSl.h); (focus exact rfl))))); (try all_goals (try show retA _ _ _ _ _ _ _))
    all_goals first
      | (exfalso; omega)
      | skip
    refine w_loop (X := Nat) [1, 15, 16] (by simp only [keepv, getv_cons, Nat.reduceEqDiff, ↓reduceIte]; exact rfl) (fun i => [(4, .val (.int .i64 ((kpts (l.take i)).length : Nat))), (5, .val (.int .i64 (krN (rwF d) k l i : Nat))), (17, .val (.int .i64 (i : Nat)))]) (fun i => [.box [.val (.int .i64 k), .val (.int .i64 p), tks l]]) (fun i => i ≤ l.length) (fun i => l.length - i) (0) ([0]) ?_ ?_ rfl ?_ <;> (try dsimp only [List.cons_append, List.nil_append])
    · exact Nat.zero_le _
    · rw [List.take_zero, show kpts [] = [] by unfold kpts; rfl]
      (refine St.le_mk rfl (VwOs.mk (by decide) ?_) ?_ <;> (repeat' (first | exact trivial | exact vwR rfl | exact Vw.ro _ | exact Vw.ptr _ _ _ rfl | refine VwO.box' ?_ | refine ⟨⟨_, rfl, ?_⟩, ?_⟩ | refine ⟨?_, ?_⟩ )))
    rintro i hi
    by_cases hil : i < l.length
    · have hmo := kcnt_mono l (i + 1)
      have htc := kcnt_take hil
      have hdp := dep_kid hil
      have htk := kpts_take hil
      have hkr1 := hkr (i + 1) (by omega)
      have hkr0 := hkr i hi
      have hs1 := hks (i + 1)
      have hks1 : krN (rwF d) k l (i + 1) = krN (rwF d) k l i * rwF d (l.getD i t000) * (if k = 2 then ch (kpts (l.take i)).length (l.getD i t000).pts.length else 1) := rfl
      have hfk := kfrm_get f3 hil
      have hnk := kpts_ndk hn hil
      have hrk : ∀ x ∈ (l.getD i t000).pts, ∃ i : Nat, i < n ∧ x = (i : Int) := fun x hx => hr x (kpts_find.2 ⟨i, hil, hx⟩)
      rw [getDT hil] at hks1 hnk hrk
      rcases hk : l[i] with ⟨k2, p2, r⟩
      rw [hk] at hdp htc htk hks1 hfk hnk hrk
      have c1 : (Tr.mk k2 p2 r).cnt = 1 + kcnt r := by unfold Tr.cnt; rfl
      have c2 : (Tr.mk k2 p2 r).dep = 1 + kdep r := by unfold Tr.dep; rfl
      have hle : (kpts (l.take (i + 1))).length = (kpts (l.take i)).length + (Tr.mk k2 p2 r).pts.length := by rw [htk, List.length_append]
      have call := ih k2 p2 r (by omega) (by omega) hfk hnk hrk (by omega)
      have b3 : l.length ≤ 100000000 := by omega
      clear ih hkr hr hn hks hmo htc hdp c1 c2 hfk hnk hrk htk er ep
      rw [hle] at hs1
      generalize krN (rwF d) k l i = K at *
      generalize rwF d (.mk k2 p2 r) = M at *
      generalize hsz : (kpts (l.take i)).length = z at *
      generalize (Tr.mk k2 p2 r).pts.length = s at *
      by_cases hk2 : k = 2
      · subst hk2
        rw [if_pos rfl] at hks1
        rw [hks1] at hkr1
        have hbd : ∀ j, j ≤ s → K * M * ch z j ≤ 10000000000 := fun j hj => Nat.le_trans (Nat.mul_le_mul_left _ (ch_mon z hj)) hkr1
        have hb0 := hbd 0 (Nat.zero_le _)
        rw [ch_zero, Nat.mul_one] at hb0
        have hc0 := ch_zero z
        have hKM : (K : Int) * (M : Int) = ((K * M : Nat) : Int) := (Int.natCast_mul K M).symm
        (repeat' (first | refine a_seq ?_ | refine a_block ?_ | refine a_skip ?_ | refine a_region ?_ | refine l_nil ?_ | (apply w_q; (focus (first | exact Q_move (by conv => lhs; whnf) | exact Q_assign (by conv => lhs; whnf) | exact Q_load_all rfl rfl KAg.h | exact Q_lss rfl rfl | exact Q_extract rfl (by conv => lhs; whnf))); (focus exact rfl)) | (refine a_cond rfl ?_ ?_ <;> (intro h; (try (have hp := of_decide_eq_true h)); (try (have hp := of_decide_eq_false h)); (try contradiction); (try (exfalso; omega)))) | refine w_alloc KMk.h (by first|(dsimp only[obA,obB,obD,obE,obF,obG,obI,List.map,AO.sh,AV.sh,AV.shl,Nat.reduceAdd];done)|exact rfl) rfl (by first|(dsimp only[obA,obB,obD,obE,obF,obG,obI,List.map,AO.sh,AV.sh,AV.shl,Nat.reduceAdd];done)|exact rfl) (by first|(dsimp only[obA,obB,obD,obE,obF,obG,obI,List.map,AO.sh,AV.sh,AV.shl,Nat.reduceAdd];done)|exact rfl) rfl ?_ | refine w_store_all rfl rfl rfl rfl rfl KSz.h (by first|(dsimp only[obA,obB,obD,obE,obF,obG,obI,List.map,AO.sh,AV.sh,AV.shl,Nat.reduceAdd];done)|exact rfl) ?_ | (((first | apply w_q); (focus exact Q_ix_kid rfl rfl rfl KSl.h hil); (focus exact rfl))) | (((first | apply w_q); (focus exact Q_ld_kid rfl hil hk KAg.h); (focus exact rfl))) | ((refine w_callV (.inl ⟨rfl, rfl⟩) (call) ?_ (by first | (dsimp only [AV.sh, AV.shl, sh_ints, sh_rows, sh_pairs, sh_ords]; done) | exact rfl) rfl ?_; rotate_left 0; (focus ((repeat' (first | exact trivial | exact Vs.val _ | exact Vs.ro _ | refine Vs.agg' ?_ | refine ⟨?_, ?_⟩)); done)); rotate_left 1; all_goals (try (skip)))) | (((first | apply w_q); (focus exact Q_mulE rfl rfl (by omega) hKM); (focus exact rfl))))); (try all_goals (try show retA _ _ _ _ _ _ _))
        all_goals first
          | (exfalso; omega)
          | skip
        clear call hKM
        generalize K * M = c at *
        refine w_loop (X := Nat) [1, 8, 15, 16, 17] (by simp only [keepv, getv_cons, Nat.reduceEqDiff, ↓reduceIte]; exact rfl) (fun j => [(4, .val (.int .i64 ((z + j : Nat) : Int))), (5, .val (.int .i64 ((c * ch z j : Nat) : Int))), (10, .val (.int .i64 ((j + 1 : Nat) : Int)))]) (fun j => [.box [.val (.int .i64 2), .val (.int .i64 p), tks l]]) (fun j => j ≤ s) (fun j => s - j) (0) ([0]) ?_ ?_ rfl ?_ <;> (try dsimp only [List.cons_append, List.nil_append])
        · exact Nat.zero_le _
        · rw [hc0, Nat.mul_one]
          (refine St.le_mk rfl (VwOs.mk (by decide) ?_) ?_ <;> (repeat' (first | exact trivial | exact vwR rfl | exact Vw.ro _ | exact Vw.ptr _ _ _ rfl | refine VwO.box' ?_ | refine ⟨⟨_, rfl, ?_⟩, ?_⟩ | refine ⟨?_, ?_⟩ )))
        rintro j hj
        by_cases hjs : j < s
        · obtain ⟨V, hV, hm, hq⟩ : ∃ V : Nat, V ≤ 200000000000 ∧ ((c * ch z j : Nat) : Int) * (((z + j : Nat) : Int) + 1) = (V : Int) ∧ (V : Int) / ((j + 1 : Nat) : Int) = ((c * ch z (j + 1) : Nat) : Int) := by
            refine ⟨c * ch z j * (z + j + 1), ?_, ?_, ?_⟩
            · exact Nat.le_trans (Nat.mul_le_mul (hbd j hj) (show z + j + 1 ≤ 12 by omega)) (by decide)
            · rw [Int.natCast_mul]; congr 1
            · rw [Int.natCast_mul]; exact ch_div c z j
          clear hbd hkr1
          (repeat' (first | refine a_seq ?_ | refine a_block ?_ | refine a_skip ?_ | refine a_region ?_ | refine l_nil ?_ | (apply w_q; (focus (first | exact Q_move (by conv => lhs; whnf) | exact Q_assign (by conv => lhs; whnf) | exact Q_fieldAddr_ptr rfl KFl.h | exact Q_load_ptr rfl rfl rfl KSc.h | exact Q_leq rfl rfl | exact Q_eql rfl rfl | exact Q_add rfl rfl (by omega))); (focus exact rfl)) | (refine a_cond rfl ?_ ?_ <;> (intro h; (try (have hp := of_decide_eq_true h)); (try (have hp := of_decide_eq_false h)); (try contradiction); (try (exfalso; omega)))) | (((first | apply w_q); (focus exact Q_mulE rfl rfl (by omega) hm); (focus exact rfl))) | (((first | apply w_q); (focus exact Q_quoE rfl rfl (by omega) hq); (focus exact rfl))))); (try all_goals (try show retA _ _ _ _ _ _ _))
          all_goals first
            | (exfalso; omega)
            | (try dsimp only [thenA, blockA]
               refine ⟨j + 1, [0], ?_, ?_, ?_, rfl⟩ <;> (try dsimp only)
               · show j + 1 ≤ s; omega
               · show s - (j + 1) < s - j; omega
               · (refine St.le_mk rfl (VwOs.mk (by decide) ?_) ?_ <;> (repeat' (first | exact trivial | exact vwR rfl | exact Vw.ro _ | exact Vw.ptr _ _ _ rfl | refine VwO.box' ?_ | refine ⟨⟨_, rfl, ?_⟩, ?_⟩ | refine ⟨?_, ?_⟩ ))))
            | (all_goals trace_state); fail
        · obtain rfl : j = s := by omega
          (repeat' (first | refine a_seq ?_ | refine a_exit ?_ | refine a_region ?_ | refine l_nil ?_ | (apply w_q; (focus (first | exact Q_move (by conv => lhs; whnf) | exact Q_leq rfl rfl | exact Q_add rfl rfl (by omega))); (focus exact rfl)) | (refine a_cond rfl ?_ ?_ <;> (intro h; (try (have hp := of_decide_eq_true h)); (try (have hp := of_decide_eq_false h)); (try contradiction); (try (exfalso; omega)))))); (try all_goals (try show retA _ _ _ _ _ _ _))
          all_goals first
            | (exfalso; omega)
            | (try dsimp only [thenA, blockA]
               refine ⟨i + 1, [0], ?_, ?_, ?_, rfl⟩ <;> (try dsimp only)
               · omega
               · omega
               · rw [hks1, hle]; (refine St.le_mk rfl (VwOs.mk (by decide) ?_) ?_ <;> (repeat' (first | exact trivial | exact vwR rfl | exact Vw.ro _ | exact Vw.ptr _ _ _ rfl | refine VwO.box' ?_ | refine ⟨⟨_, rfl, ?_⟩, ?_⟩ | refine ⟨?_, ?_⟩ ))))
            | (all_goals trace_state); fail
      · rw [if_neg hk2, Nat.mul_one] at hks1
        rw [hks1] at hkr1
        have hKM : (K : Int) * (M : Int) = ((K * M : Nat) : Int) := (Int.natCast_mul K M).symm
        (repeat' (first | refine a_seq ?_ | refine a_block ?_ | refine a_skip ?_ | refine a_region ?_ | refine l_nil ?_ | (apply w_q; (focus (first | exact Q_move (by conv => lhs; whnf) | exact Q_assign (by conv => lhs; whnf) | exact Q_load_all rfl rfl KAg.h | exact Q_lss rfl rfl | exact Q_extract rfl (by conv => lhs; whnf))); (focus exact rfl)) | (refine a_cond rfl ?_ ?_ <;> (intro h; (try (have hp := of_decide_eq_true h)); (try (have hp := of_decide_eq_false h)); (try contradiction); (try (exfalso; omega)))) | refine w_alloc KMk.h (by first|(dsimp only[obA,obB,obD,obE,obF,obG,obI,List.map,AO.sh,AV.sh,AV.shl,Nat.reduceAdd];done)|exact rfl) rfl (by first|(dsimp only[obA,obB,obD,obE,obF,obG,obI,List.map,AO.sh,AV.sh,AV.shl,Nat.reduceAdd];done)|exact rfl) (by first|(dsimp only[obA,obB,obD,obE,obF,obG,obI,List.map,AO.sh,AV.sh,AV.shl,Nat.reduceAdd];done)|exact rfl) rfl ?_ | refine w_store_all rfl rfl rfl rfl rfl KSz.h (by first|(dsimp only[obA,obB,obD,obE,obF,obG,obI,List.map,AO.sh,AV.sh,AV.shl,Nat.reduceAdd];done)|exact rfl) ?_ | (((first | apply w_q); (focus exact Q_ix_kid rfl rfl rfl KSl.h hil); (focus exact rfl))) | (((first | apply w_q); (focus exact Q_ld_kid rfl hil hk KAg.h); (focus exact rfl))) | ((refine w_callV (.inl ⟨rfl, rfl⟩) (call) ?_ (by first | (dsimp only [AV.sh, AV.shl, sh_ints, sh_rows, sh_pairs, sh_ords]; done) | exact rfl) rfl ?_; rotate_left 0; (focus ((repeat' (first | exact trivial | exact Vs.val _ | exact Vs.ro _ | refine Vs.agg' ?_ | refine ⟨?_, ?_⟩)); done)); rotate_left 1; all_goals (try (skip)))) | (((first | apply w_q); (focus exact Q_mulE rfl rfl (by omega) hKM); (focus exact rfl))))); (try all_goals (try show retA _ _ _ _ _ _ _))
        all_goals first
          | (exfalso; omega)
          | skip
        clear call hKM
        generalize K * M = c at *
        refine w_loop (X := Nat) [1, 8, 15, 16, 17] (by simp only [keepv, getv_cons, Nat.reduceEqDiff, ↓reduceIte]; exact rfl) (fun j => [(4, .val (.int .i64 ((z + j : Nat) : Int))), (5, .val (.int .i64 ((c : Nat) : Int))), (10, .val (.int .i64 ((j + 1 : Nat) : Int)))]) (fun j => [.box [.val (.int .i64 k), .val (.int .i64 p), tks l]]) (fun j => j ≤ s) (fun j => s - j) (0) ([0]) ?_ ?_ rfl ?_ <;> (try dsimp only [List.cons_append, List.nil_append])
        · exact Nat.zero_le _
        · (refine St.le_mk rfl (VwOs.mk (by decide) ?_) ?_ <;> (repeat' (first | exact trivial | exact vwR rfl | exact Vw.ro _ | exact Vw.ptr _ _ _ rfl | refine VwO.box' ?_ | refine ⟨⟨_, rfl, ?_⟩, ?_⟩ | refine ⟨?_, ?_⟩ )))
        rintro j hj
        by_cases hjs : j < s
        · (repeat' (first | refine a_seq ?_ | refine a_block ?_ | refine a_skip ?_ | refine a_region ?_ | refine l_nil ?_ | (apply w_q; (focus (first | exact Q_move (by conv => lhs; whnf) | exact Q_assign (by conv => lhs; whnf) | exact Q_fieldAddr_ptr rfl KFl.h | exact Q_load_ptr rfl rfl rfl KSc.h | exact Q_leq rfl rfl | exact Q_eql rfl rfl | exact Q_add rfl rfl (by omega))); (focus exact rfl)) | (refine a_cond rfl ?_ ?_ <;> (intro h; (try (have hp := of_decide_eq_true h)); (try (have hp := of_decide_eq_false h)); (try contradiction); (try (exfalso; omega)))))); (try all_goals (try show retA _ _ _ _ _ _ _))
          all_goals first
            | (exfalso; omega)
            | (try dsimp only [thenA, blockA]
               refine ⟨j + 1, [0], ?_, ?_, ?_, rfl⟩ <;> (try dsimp only)
               · show j + 1 ≤ s; omega
               · show s - (j + 1) < s - j; omega
               · (refine St.le_mk rfl (VwOs.mk (by decide) ?_) ?_ <;> (repeat' (first | exact trivial | exact vwR rfl | exact Vw.ro _ | exact Vw.ptr _ _ _ rfl | refine VwO.box' ?_ | refine ⟨⟨_, rfl, ?_⟩, ?_⟩ | refine ⟨?_, ?_⟩ ))))
            | (all_goals trace_state); fail
        · obtain rfl : j = s := by omega
          (repeat' (first | refine a_seq ?_ | refine a_exit ?_ | refine a_region ?_ | refine l_nil ?_ | (apply w_q; (focus (first | exact Q_move (by conv => lhs; whnf) | exact Q_leq rfl rfl | exact Q_add rfl rfl (by omega))); (focus exact rfl)) | (refine a_cond rfl ?_ ?_ <;> (intro h; (try (have hp := of_decide_eq_true h)); (try (have hp := of_decide_eq_false h)); (try contradiction); (try (exfalso; omega)))))); (try all_goals (try show retA _ _ _ _ _ _ _))
          all_goals first
            | (exfalso; omega)
            | (try dsimp only [thenA, blockA]
               refine ⟨i + 1, [0], ?_, ?_, ?_, rfl⟩ <;> (try dsimp only)
               · omega
               · omega
               · rw [hks1, hle]; (refine St.le_mk rfl (VwOs.mk (by decide) ?_) ?_ <;> (repeat' (first | exact trivial | exact vwR rfl | exact Vw.ro _ | exact Vw.ptr _ _ _ rfl | refine VwO.box' ?_ | refine ⟨⟨_, rfl, ?_⟩, ?_⟩ | refine ⟨?_, ?_⟩ ))))
            | (all_goals trace_state); fail
    · obtain rfl : i = l.length := by omega
      rw [List.take_length]
      (repeat' (first | refine a_seq ?_ | refine a_ret ?_ | refine a_exit ?_ | refine a_region ?_ | refine l_nil ?_ | (apply w_q; (focus (first | exact Q_move (by conv => lhs; whnf) | exact Q_assign (by conv => lhs; whnf) | exact Q_lss rfl rfl)); (focus exact rfl)) | (refine a_cond rfl ?_ ?_ <;> (intro h; (try (have hp := of_decide_eq_true h)); (try (have hp := of_decide_eq_false h)); (try contradiction); (try (exfalso; omega)))))); (try all_goals (try show retA _ _ _ _ _ _ _))
      all_goals first
        | (exfalso; omega)
        | (refine ⟨[_, _], [], ⟨resV_tmp (by conv => lhs; whnf), resV_tmp (by conv => lhs; whnf), trivial⟩, VwOs.mk (by decide) trivial, ?_, rfl⟩; (repeat' (first | exact vwRL rfl | refine Vw.tup' ?_)); done)
        | (all_goals trace_state); fail
end Go.Proofs.YtbgecpjlopdkfaaDoor
