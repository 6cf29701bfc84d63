import Derived.Test.YtbgecpjlopdkfaaDoorFm
set_option linter.unusedSimpArgs false
set_option linter.unusedVariables false
set_option linter.unusedSectionVars false
set_option maxRecDepth 20000
namespace Go.Proofs.YtbgecpjlopdkfaaDoor
attribute [local irreducible] QOp aL aC qL
mutual
/-- All lists of kids are lists. -/
def Tr.sml : Tr → Prop
  | .mk _ _ l => l.length ≤ 9223372036854775807 ∧ ksml l
def ksml : List Tr → Prop
  | [] => True
  | t :: r => t.sml ∧ ksml r
end
theorem ksml_get : ∀ {l : List Tr}, ksml l → ∀ {i : Nat} (h : i < l.length), (l[i]).sml
  | t :: r, hs, 0, h => by unfold ksml at hs; exact hs.1
  | t :: r, hs, i + 1, h => by unfold ksml at hs; exact ksml_get (l := r) hs.2 (by simpa using h)
mutual
theorem sml_cnt : ∀ (t : Tr), t.cnt ≤ 9223372036854775807 → t.sml
  | .mk k p l, h => by
    unfold Tr.cnt at h
    have := kcnt_len l
    unfold Tr.sml
    exact ⟨by omega, ksml_cnt l (by omega)⟩
theorem ksml_cnt : ∀ (l : List Tr), kcnt l ≤ 9223372036854775807 → ksml l
  | [], _ => by unfold ksml; trivial
  | t :: r, h => by
    unfold kcnt at h
    unfold ksml
    exact ⟨sml_cnt t (by omega), ksml_cnt r (by omega)⟩
end
theorem wr_add (a b : Int) : IntKind.i64.wrap (IntKind.i64.wrap a + IntKind.i64.wrap b) = IntKind.i64.wrap (a + b) := by
  rw [IntKind.wrap_i64, IntKind.wrap_i64, IntKind.wrap_i64, IntKind.wrap_i64]; omega
theorem Q_addW {P : Program} {st : St} {d : Option Tmp} {ty : TypeId} {pos : String} {af : Array Edge} {g : Option (Nat × Bool)} {T T' : TypeId} {x y : Operand} {m n r : Int} (hx : st.ev x = .val (.int .i64 m)) (hy : st.ev y = .val (.int .i64 n)) (hr : IntKind.i64.wrap (m + n) = r) :
    QOp P ⟨d, .binOp .add T x y T', ty, pos, af, g⟩ st (.val (.int .i64 r)) := by
  subst hr
  exact Q_bin hx hy fun _ => rfl
set_option maxRecDepth 20000 in
theorem fcountW_ac : ∀ (d : Nat) (k p : Int) (l : List Tr), 1 + kdep l ≤ d → (Tr.mk k p l).sml → AC Tryd.prog 77 [ta3 k p l] [] (.val (.int .i64 (IntKind.i64.wrap ((1 + kcnt l : Nat) : Int)))) []
  | 0, k, p, l, hd, _ => by omega
  | d + 1, k, p, l, hd, hs => by
    have ih := fcountW_ac d
    unfold Tr.sml at hs
    obtain ⟨hll, hks⟩ := hs
    unfold ta3 at ih ⊢
    refine AC.mk (n := 19) (fn := Tryd.f77) Tryd.func77 (by kernel_rfl) rfl rfl rfl rfl (fun cx => ?_); dsimp only [argv, Nat.reduceAdd]
    (repeat' (first | refine a_seq ?_ | refine a_block ?_ | refine a_region ?_ | refine l_nil ?_ | (apply w_q; (focus (first | exact Q_move (by conv => lhs; whnf) | exact Q_assign (by conv => lhs; whnf) | exact Q_fieldAddr_ptr rfl KFl.h | exact Q_load_ptr rfl rfl rfl KSc.h)); (focus exact rfl)) | refine w_box rfl rfl (by first|(dsimp only[obA,obB,obD,obE,obF,obG,obI,List.map,AO.sh,AV.sh,AV.shl,Nat.reduceAdd];done)|exact rfl) (by first|(dsimp only[obA,obB,obD,obE,obF,obG,obI,List.map,AO.sh,AV.sh,AV.shl,Nat.reduceAdd];done)|exact rfl) rfl ?_ | (((first | apply w_q); (focus exact Q_len_kid rfl KSl.h); (focus exact rfl))))); (try all_goals (try show retA _ _ _ _ _ _ _))
    refine w_loop (X := Nat) [7, 8] (by simp only [keepv, getv_cons, Nat.reduceEqDiff, ↓reduceIte]; exact rfl) (fun i => [(3, .val (.int .i64 (IntKind.i64.wrap ((1 + kcnt (l.take i) : Nat) : Int)))), (9, .val (.int .i64 (i : Nat)))]) (fun i => [.box [.val (.int .i64 k), .val (.int .i64 p), tks l]]) (fun i => i ≤ l.length) (fun i => l.length - i) (0) ([0]) ?_ ?_ rfl ?_ <;> (try dsimp only [List.cons_append, List.nil_append])
    · exact Nat.zero_le _
    · rw [show IntKind.i64.wrap ((1 + kcnt (l.take 0) : Nat) : Int) = 1 by rw [List.take_zero, show kcnt [] = 0 by unfold kcnt; rfl]; exact IntWalk.i64_in _ (by decide)]
      (refine St.le_mk rfl (VwOs.mk (by decide) ?_) ?_ <;> (repeat' (first | exact trivial | exact vwR rfl | exact Vw.ro _ | refine VwO.box' ?_ | refine ⟨⟨_, rfl, ?_⟩, ?_⟩ | refine ⟨?_, ?_⟩ )))
    rintro i hi
    by_cases hil : i < l.length
    · have ht := kcnt_take hil
      have hdp := dep_kid hil
      have hsk := ksml_get hks hil
      rcases hk : l[i] with ⟨k1, p1, r⟩
      rw [hk] at ht hdp hsk
      have c1 : (Tr.mk k1 p1 r).cnt = 1 + kcnt r := by unfold Tr.cnt; rfl
      have c2 : (Tr.mk k1 p1 r).dep = 1 + kdep r := by unfold Tr.dep; rfl
      have call := ih k1 p1 r (by omega) hsk
      have e1 : IntKind.i64.wrap (IntKind.i64.wrap ((1 + kcnt (l.take i) : Nat) : Int) + IntKind.i64.wrap ((1 + kcnt r : Nat) : Int)) = IntKind.i64.wrap ((1 + kcnt (l.take (i + 1)) : Nat) : Int) := by
        rw [wr_add]; congr 1; omega
      clear ih ht hdp c1 c2 hks hsk
      (repeat' (first | refine a_seq ?_ | refine a_block ?_ | refine a_skip ?_ | refine a_region ?_ | refine l_nil ?_ | (apply w_q; (focus (first | exact Q_move (by conv => lhs; whnf) | exact Q_assign (by conv => lhs; whnf) | exact Q_load_all rfl rfl KAg.h | exact Q_lss rfl rfl | exact Q_add rfl rfl (by omega))); (focus exact rfl)) | (refine a_cond rfl ?_ ?_ <;> (intro h; (try (have hp := of_decide_eq_true h)); (try (have hp := of_decide_eq_false h)); (try contradiction); (try (exfalso; omega)))) | refine w_alloc KMk.h (by first|(dsimp only[obA,obB,obD,obE,obF,obG,obI,List.map,AO.sh,AV.sh,AV.shl,Nat.reduceAdd];done)|exact rfl) rfl (by first|(dsimp only[obA,obB,obD,obE,obF,obG,obI,List.map,AO.sh,AV.sh,AV.shl,Nat.reduceAdd];done)|exact rfl) (by first|(dsimp only[obA,obB,obD,obE,obF,obG,obI,List.map,AO.sh,AV.sh,AV.shl,Nat.reduceAdd];done)|exact rfl) rfl ?_ | refine w_store_all rfl rfl rfl rfl rfl KSz.h (by first|(dsimp only[obA,obB,obD,obE,obF,obG,obI,List.map,AO.sh,AV.sh,AV.shl,Nat.reduceAdd];done)|exact rfl) ?_ | (((first | apply w_q); (focus exact Q_ix_kid rfl rfl rfl KSl.h hil); (focus exact rfl))) | (((first | apply w_q); (focus exact Q_ld_kid rfl hil hk KAg.h); (focus exact rfl))) | ((refine w_callV (.inl ⟨rfl, rfl⟩) (call) ?_ (by first | (dsimp only [AV.sh, AV.shl, sh_ints, sh_rows, sh_pairs, sh_ords]; done) | exact rfl) rfl ?_; rotate_left 0; (focus ((repeat' (first | exact trivial | exact Vs.val _ | exact Vs.ro _ | refine Vs.agg' ?_ | refine ⟨?_, ?_⟩)); done)); rotate_left 1; all_goals (try (skip)))) | (((first | apply w_q); (focus exact Q_addW rfl rfl e1); (focus exact rfl))))); (try all_goals (try show retA _ _ _ _ _ _ _))
      all_goals first
        | (exfalso; omega)
        | (try dsimp only [thenA, blockA]
           refine ⟨i + 1, [0], ?_, ?_, ?_, rfl⟩ <;> (try dsimp only)
           · omega
           · omega
           · (refine St.le_mk rfl (VwOs.mk (by decide) ?_) ?_ <;> (repeat' (first | exact trivial | exact vwR rfl | exact Vw.ro _ | refine VwO.box' ?_ | refine ⟨⟨_, rfl, ?_⟩, ?_⟩ | refine ⟨?_, ?_⟩ ))))
        | (all_goals trace_state); fail
    · obtain rfl : i = l.length := by omega
      rw [List.take_length]
      (repeat' (first | refine a_seq ?_ | refine a_ret ?_ | refine a_exit ?_ | refine a_region ?_ | refine l_nil ?_ | (apply w_q; (focus (first | exact Q_move (by conv => lhs; whnf) | exact Q_assign (by conv => lhs; whnf) | exact Q_lss rfl rfl)); (focus exact rfl)) | (refine a_cond rfl ?_ ?_ <;> (intro h; (try (have hp := of_decide_eq_true h)); (try (have hp := of_decide_eq_false h)); (try contradiction); (try (exfalso; omega)))))); (try all_goals (try show retA _ _ _ _ _ _ _))
      all_goals first
        | (exfalso; omega)
        | (refine ⟨[_], [], ⟨resV_tmp (by conv => lhs; whnf), trivial⟩, VwOs.mk (by decide) trivial, ?_, rfl⟩; (repeat' (first | exact vwR rfl)); done)
        | (all_goals trace_state); fail
mutual
/-- What is wrong with the form of a formula. -/
def Tr.ffm : Tr → Int
  | .mk k v l => if k < 1 ∨ 5 < k then 7 else if (k ≤ 2 ∧ l.length ≠ 0) ∨ (2 < k ∧ l.length ≠ 2) then 1 else if v < 0 ∨ 3 ≤ v ∨ (k ≠ 2 ∧ v ≠ 0) then 3 else kffm l
def kffm : List Tr → Int
  | [] => 0
  | t :: r => if t.ffm ≠ 0 then t.ffm else kffm r
end
theorem kffm_drop {l : List Tr} {i : Nat} (h : i < l.length) : kffm (l.drop i) = if (l[i]).ffm ≠ 0 then (l[i]).ffm else kffm (l.drop (i + 1)) := by
  rw [List.drop_eq_getElem_cons h]
  conv => lhs; unfold kffm
theorem kffm_nil : kffm [] = 0 := by unfold kffm; rfl
theorem ffm_eq (k v : Int) (l : List Tr) : (Tr.mk k v l).ffm = if k < 1 ∨ 5 < k then 7 else if (k ≤ 2 ∧ l.length ≠ 0) ∨ (2 < k ∧ l.length ≠ 2) then 1 else if v < 0 ∨ 3 ≤ v ∨ (k ≠ 2 ∧ v ≠ 0) then 3 else kffm l := by unfold Tr.ffm; rfl
set_option maxRecDepth 20000 in
set_option maxHeartbeats 2000000 in
theorem fformW_ac : ∀ (d : Nat) (k p : Int) (l : List Tr), 1 + kdep l ≤ d → (Tr.mk k p l).sml → AC Tryd.prog 78 [ta3 k p l] [] (.val (.int .i64 (Tr.mk k p l).ffm)) []
  | 0, k, p, l, hd, _ => by omega
  | d + 1, k, p, l, hd, hs => by
    have ih := fformW_ac d
    unfold Tr.sml at hs
    obtain ⟨hll, hks⟩ := hs
    rw [ffm_eq]
    unfold ta3 at ih ⊢
    by_cases h1 : k < 1 ∨ 5 < k
    · rw [if_pos h1]
      rcases h1 with h1 | h1
      all_goals
        refine AC.mk (n := 57) (fn := Tryd.f78) Tryd.func78 (by kernel_rfl) rfl rfl rfl rfl (fun cx => ?_); dsimp only [argv, Nat.reduceAdd]
        (repeat' (first | refine a_seq ?_ | refine a_block ?_ | refine a_skip ?_ | refine a_ret ?_ | refine a_region ?_ | refine l_nil ?_ | (apply w_q; (focus (first | exact Q_move (by conv => lhs; whnf) | exact Q_assign (by conv => lhs; whnf) | exact Q_fieldAddr_ptr rfl KFl.h | exact Q_load_ptr rfl rfl rfl KSc.h | exact Q_lss rfl rfl | exact Q_leq rfl rfl | exact Q_gtr rfl rfl | exact Q_pick_t rfl (by assumption) (by conv => lhs; whnf) | exact Q_pick_f rfl (by assumption) (by conv => lhs; whnf))); (focus exact rfl)) | (refine a_cond rfl ?_ ?_ <;> (intro h; (try (have hp := of_decide_eq_true h)); (try (have hp := of_decide_eq_false h)); (try contradiction); (try (exfalso; omega)))) | refine w_guard_y rfl rfl rfl (by first | assumption | rfl) ?_ | refine w_guard_n rfl rfl rfl (by first | assumption | rfl) ?_ | (refine w_guard rfl rfl rfl ?_ ?_ <;> (intro h; (try (have hp := of_decide_eq_true h)); (try (have hp := of_decide_eq_false h)); (try contradiction); (try (exfalso; omega)))) | refine w_box rfl rfl (by first|(dsimp only[obA,obB,obD,obE,obF,obG,obI,List.map,AO.sh,AV.sh,AV.shl,Nat.reduceAdd];done)|exact rfl) (by first|(dsimp only[obA,obB,obD,obE,obF,obG,obI,List.map,AO.sh,AV.sh,AV.shl,Nat.reduceAdd];done)|exact rfl) rfl ?_)); (try all_goals (try show retA _ _ _ _ _ _ _))
      all_goals first
        | (exfalso; omega)
        | (refine ⟨[_], [], ⟨resV_tmp (by conv => lhs; whnf), trivial⟩, VwOs.mk (by decide) trivial, ?_, rfl⟩; (repeat' (first | exact vwR rfl)); done)
        | (all_goals trace_state); fail
    rw [if_neg h1]
    have h12 : k ≤ 2 ∨ 2 < k := by omega
    by_cases h2 : (k ≤ 2 ∧ l.length ≠ 0) ∨ (2 < k ∧ l.length ≠ 2)
    · rw [if_pos h2]
      rcases h12 with h12 | h12
      all_goals
        refine AC.mk (n := 57) (fn := Tryd.f78) Tryd.func78 (by kernel_rfl) rfl rfl rfl rfl (fun cx => ?_); dsimp only [argv, Nat.reduceAdd]
        (repeat' (first | refine a_seq ?_ | refine a_block ?_ | refine a_skip ?_ | refine a_ret ?_ | refine a_region ?_ | refine l_nil ?_ | (apply w_q; (focus (first | exact Q_move (by conv => lhs; whnf) | exact Q_assign (by conv => lhs; whnf) | exact Q_fieldAddr_ptr rfl KFl.h | exact Q_load_ptr rfl rfl rfl KSc.h | exact Q_lss rfl rfl | exact Q_leq rfl rfl | exact Q_gtr rfl rfl | exact Q_neq rfl rfl | exact Q_pick_f rfl (by assumption) (by conv => lhs; whnf))); (focus exact rfl)) | (refine a_cond rfl ?_ ?_ <;> (intro h; (try (have hp := of_decide_eq_true h)); (try (have hp := of_decide_eq_false h)); (try contradiction); (try (exfalso; omega)))) | refine w_guard_y rfl rfl rfl (by first | assumption | rfl) ?_ | (refine w_guard rfl rfl rfl ?_ ?_ <;> (intro h; (try (have hp := of_decide_eq_true h)); (try (have hp := of_decide_eq_false h)); (try contradiction); (try (exfalso; omega)))) | refine w_box rfl rfl (by first|(dsimp only[obA,obB,obD,obE,obF,obG,obI,List.map,AO.sh,AV.sh,AV.shl,Nat.reduceAdd];done)|exact rfl) (by first|(dsimp only[obA,obB,obD,obE,obF,obG,obI,List.map,AO.sh,AV.sh,AV.shl,Nat.reduceAdd];done)|exact rfl) rfl ?_ | (((first | apply w_q); (focus exact Q_len_kid rfl KSl.h); (focus exact rfl))))); (try all_goals (try show retA _ _ _ _ _ _ _))
      all_goals first
        | (exfalso; omega)
        | (refine ⟨[_], [], ⟨resV_tmp (by conv => lhs; whnf), trivial⟩, VwOs.mk (by decide) trivial, ?_, rfl⟩; (repeat' (first | exact vwR rfl)); done)
        | (all_goals trace_state); fail
    rw [if_neg h2]
    by_cases h3 : p < 0 ∨ 3 ≤ p ∨ (k ≠ 2 ∧ p ≠ 0)
    · rw [if_pos h3]
      rcases h12 with h12 | h12
      all_goals
        refine AC.mk (n := 57) (fn := Tryd.f78) Tryd.func78 (by kernel_rfl) rfl rfl rfl rfl (fun cx => ?_); dsimp only [argv, Nat.reduceAdd]
        (repeat' (first | refine a_seq ?_ | refine a_block ?_ | refine a_skip ?_ | refine a_ret ?_ | refine a_region ?_ | refine l_nil ?_ | (apply w_q; (focus (first | exact Q_move (by conv => lhs; whnf) | exact Q_assign (by conv => lhs; whnf) | exact Q_fieldAddr_ptr rfl KFl.h | exact Q_load_ptr rfl rfl rfl KSc.h | exact Q_lss rfl rfl | exact Q_leq rfl rfl | exact Q_gtr rfl rfl | exact Q_geq rfl rfl | exact Q_neq rfl rfl | exact Q_pick_t rfl (by assumption) (by conv => lhs; whnf) | exact Q_pick_f rfl (by assumption) (by conv => lhs; whnf) | exact Q_pick_t rfl rfl (by conv => lhs; whnf))); (focus exact rfl)) | (refine a_cond rfl ?_ ?_ <;> (intro h; (try (have hp := of_decide_eq_true h)); (try (have hp := of_decide_eq_false h)); (try contradiction); (try (exfalso; omega)))) | refine w_guard_u rfl rfl rfl ?_ | refine w_guard_y rfl rfl rfl (by first | assumption | rfl) ?_ | refine w_guard_n rfl rfl rfl (by first | assumption | rfl) ?_ | (refine w_guard rfl rfl rfl ?_ ?_ <;> (intro h; (try (have hp := of_decide_eq_true h)); (try (have hp := of_decide_eq_false h)); (try contradiction); (try (exfalso; omega)))) | refine w_box rfl rfl (by first|(dsimp only[obA,obB,obD,obE,obF,obG,obI,List.map,AO.sh,AV.sh,AV.shl,Nat.reduceAdd];done)|exact rfl) (by first|(dsimp only[obA,obB,obD,obE,obF,obG,obI,List.map,AO.sh,AV.sh,AV.shl,Nat.reduceAdd];done)|exact rfl) rfl ?_ | (((first | apply w_q); (focus exact Q_len_kid rfl KSl.h); (focus exact rfl))))); (try all_goals (try show retA _ _ _ _ _ _ _))
      all_goals first
        | (exfalso; omega)
        | (refine ⟨[_], [], ⟨resV_tmp (by conv => lhs; whnf), trivial⟩, VwOs.mk (by decide) trivial, ?_, rfl⟩; (repeat' (first | exact vwR rfl)); done)
        | (all_goals trace_state); fail
    rw [if_neg h3]
    rcases h12 with h12 | h12
    all_goals
      refine AC.mk (n := 57) (fn := Tryd.f78) Tryd.func78 (by kernel_rfl) rfl rfl rfl rfl (fun cx => ?_); dsimp only [argv, Nat.reduceAdd]
      (repeat' (first | refine a_seq ?_ | refine a_block ?_ | refine a_skip ?_ | refine a_region ?_ | refine l_nil ?_ | (apply w_q; (focus (first | exact Q_move (by conv => lhs; whnf) | exact Q_assign (by conv => lhs; whnf) | exact Q_fieldAddr_ptr rfl KFl.h | exact Q_load_ptr rfl rfl rfl KSc.h | exact Q_lss rfl rfl | exact Q_leq rfl rfl | exact Q_gtr rfl rfl | exact Q_geq rfl rfl | exact Q_neq rfl rfl | exact Q_pick_t rfl (by assumption) (by conv => lhs; whnf) | exact Q_pick_f rfl (by assumption) (by conv => lhs; whnf))); (focus exact rfl)) | (refine a_cond rfl ?_ ?_ <;> (intro h; (try (have hp := of_decide_eq_true h)); (try (have hp := of_decide_eq_false h)); (try contradiction); (try (exfalso; omega)))) | refine w_guard_y rfl rfl rfl (by first | assumption | rfl) ?_ | refine w_guard_n rfl rfl rfl (by first | assumption | rfl) ?_ | (refine w_guard rfl rfl rfl ?_ ?_ <;> (intro h; (try (have hp := of_decide_eq_true h)); (try (have hp := of_decide_eq_false h)); (try contradiction); (try (exfalso; omega)))) | refine w_box rfl rfl (by first|(dsimp only[obA,obB,obD,obE,obF,obG,obI,List.map,AO.sh,AV.sh,AV.shl,Nat.reduceAdd];done)|exact rfl) (by first|(dsimp only[obA,obB,obD,obE,obF,obG,obI,List.map,AO.sh,AV.sh,AV.shl,Nat.reduceAdd];done)|exact rfl) rfl ?_ | (((first | apply w_q); (focus exact Q_len_kid rfl KSl.h); (focus exact rfl))))); (try all_goals (try show retA _ _ _ _ _ _ _))
    all_goals first
      | (exfalso; omega)
      | skip
    all_goals
      refine w_loop (X := Nat) [45, 46] (by simp only [keepv, getv_cons, Nat.reduceEqDiff, ↓reduceIte]; exact rfl) (fun i => [(47, .val (.int .i64 (i : Nat)))]) (fun i => [.box [.val (.int .i64 k), .val (.int .i64 p), tks l]]) (fun i => i ≤ l.length ∧ kffm l = kffm (l.drop i)) (fun i => l.length - i) (0) ([0]) ?_ ?_ rfl ?_ <;> (try dsimp only [List.cons_append, List.nil_append])
      · exact ⟨Nat.zero_le _, rfl⟩
      · (refine St.le_mk rfl (VwOs.mk (by decide) ?_) ?_ <;> (repeat' (first | exact trivial | exact vwR rfl | exact Vw.ro _ | refine VwO.box' ?_ | refine ⟨⟨_, rfl, ?_⟩, ?_⟩ | refine ⟨?_, ?_⟩ )))
      rintro i ⟨hi, hf⟩
      by_cases hil : i < l.length
      · have hdp := dep_kid hil
        have hdr := kffm_drop hil
        have hsk := ksml_get hks hil
        rcases hk : l[i] with ⟨k2, p1, r⟩
        rw [hk] at hdp hdr hsk
        have c2 : (Tr.mk k2 p1 r).dep = 1 + kdep r := by unfold Tr.dep; rfl
        have call := ih k2 p1 r (by omega) hsk
        rw [hdr] at hf
        clear hdr
        generalize (Tr.mk k2 p1 r).ffm = X at *
        clear ih hdp c2 h1 h2 h3 hks hsk
        by_cases hX : X = 0
        · subst hX
          rw [if_neg (by omega)] at hf
          (repeat' (first | refine a_seq ?_ | refine a_block ?_ | refine a_skip ?_ | refine a_region ?_ | refine l_nil ?_ | (apply w_q; (focus (first | exact Q_move (by conv => lhs; whnf) | exact Q_assign (by conv => lhs; whnf) | exact Q_load_all rfl rfl KAg.h | exact Q_lss rfl rfl | exact Q_neq rfl rfl | exact Q_add rfl rfl (by omega))); (focus exact rfl)) | (refine a_cond rfl ?_ ?_ <;> (intro h; (try (have hp := of_decide_eq_true h)); (try (have hp := of_decide_eq_false h)); (try contradiction); (try (exfalso; omega)))) | refine w_alloc KMk.h (by first|(dsimp only[obA,obB,obD,obE,obF,obG,obI,List.map,AO.sh,AV.sh,AV.shl,Nat.reduceAdd];done)|exact rfl) rfl (by first|(dsimp only[obA,obB,obD,obE,obF,obG,obI,List.map,AO.sh,AV.sh,AV.shl,Nat.reduceAdd];done)|exact rfl) (by first|(dsimp only[obA,obB,obD,obE,obF,obG,obI,List.map,AO.sh,AV.sh,AV.shl,Nat.reduceAdd];done)|exact rfl) rfl ?_ | refine w_store_all rfl rfl rfl rfl rfl KSz.h (by first|(dsimp only[obA,obB,obD,obE,obF,obG,obI,List.map,AO.sh,AV.sh,AV.shl,Nat.reduceAdd];done)|exact rfl) ?_ | (((first | apply w_q); (focus exact Q_ix_kid rfl rfl rfl KSl.h hil); (focus exact rfl))) | (((first | apply w_q); (focus exact Q_ld_kid rfl hil hk KAg.h); (focus exact rfl))) | ((refine w_callV (.inl ⟨rfl, rfl⟩) (call) ?_ (by first | (dsimp only [AV.sh, AV.shl, sh_ints, sh_rows, sh_pairs, sh_ords]; done) | exact rfl) rfl ?_; rotate_left 0; (focus ((repeat' (first | exact trivial | exact Vs.val _ | exact Vs.ro _ | refine Vs.agg' ?_ | refine ⟨?_, ?_⟩)); done)); rotate_left 1; all_goals (try (skip)))))); (try all_goals (try show retA _ _ _ _ _ _ _))
          all_goals first
            | (exfalso; omega)
            | (try dsimp only [thenA, blockA]
               refine ⟨i + 1, [0], ?_, ?_, ?_, rfl⟩ <;> (try dsimp only)
               · exact ⟨by omega, hf⟩
               · omega
               · (refine St.le_mk rfl (VwOs.mk (by decide) ?_) ?_ <;> (repeat' (first | exact trivial | exact vwR rfl | exact Vw.ro _ | refine VwO.box' ?_ | refine ⟨⟨_, rfl, ?_⟩, ?_⟩ | refine ⟨?_, ?_⟩ ))))
            | (all_goals trace_state); fail
        · rw [if_pos hX] at hf
          rw [hf]
          (repeat' (first | refine a_seq ?_ | refine a_block ?_ | refine a_skip ?_ | refine a_ret ?_ | refine a_region ?_ | refine l_nil ?_ | (apply w_q; (focus (first | exact Q_move (by conv => lhs; whnf) | exact Q_assign (by conv => lhs; whnf) | exact Q_load_all rfl rfl KAg.h | exact Q_lss rfl rfl | exact Q_neq rfl rfl)); (focus exact rfl)) | (refine a_cond rfl ?_ ?_ <;> (intro h; (try (have hp := of_decide_eq_true h)); (try (have hp := of_decide_eq_false h)); (try contradiction); (try (exfalso; omega)))) | refine w_alloc KMk.h (by first|(dsimp only[obA,obB,obD,obE,obF,obG,obI,List.map,AO.sh,AV.sh,AV.shl,Nat.reduceAdd];done)|exact rfl) rfl (by first|(dsimp only[obA,obB,obD,obE,obF,obG,obI,List.map,AO.sh,AV.sh,AV.shl,Nat.reduceAdd];done)|exact rfl) (by first|(dsimp only[obA,obB,obD,obE,obF,obG,obI,List.map,AO.sh,AV.sh,AV.shl,Nat.reduceAdd];done)|exact rfl) rfl ?_ | refine w_store_all rfl rfl rfl rfl rfl KSz.h (by first|(dsimp only[obA,obB,obD,obE,obF,obG,obI,List.map,AO.sh,AV.sh,AV.shl,Nat.reduceAdd];done)|exact rfl) ?_ | (((first | apply w_q); (focus exact Q_ix_kid rfl rfl rfl KSl.h hil); (focus exact rfl))) | (((first | apply w_q); (focus exact Q_ld_kid rfl hil hk KAg.h); (focus exact rfl))) | ((refine w_callV (.inl ⟨rfl, rfl⟩) (call) ?_ (by first | (dsimp only [AV.sh, AV.shl, sh_ints, sh_rows, sh_pairs, sh_ords]; done) | exact rfl) rfl ?_; rotate_left 0; (focus ((repeat' (first | exact trivial | exact Vs.val _ | exact Vs.ro _ | refine Vs.agg' ?_ | refine ⟨?_, ?_⟩)); done)); rotate_left 1; all_goals (try (skip)))))); (try all_goals (try show retA _ _ _ _ _ _ _))
          all_goals first
            | (exfalso; omega)
            | (refine ⟨[_], [], ⟨resV_tmp (by conv => lhs; whnf), trivial⟩, VwOs.mk (by decide) trivial, ?_, rfl⟩; (repeat' (first | exact vwR rfl)); done)
            | (all_goals trace_state); fail
      · have hz : kffm l = 0 := by
          rw [hf, List.drop_eq_nil_of_le (by omega), kffm_nil]
        rw [hz]
        (repeat' (first | refine a_seq ?_ | refine a_ret ?_ | refine a_exit ?_ | refine a_region ?_ | refine l_nil ?_ | (apply w_q; (focus (first | exact Q_assign (by conv => lhs; whnf) | exact Q_lss rfl rfl)); (focus exact rfl)) | (refine a_cond rfl ?_ ?_ <;> (intro h; (try (have hp := of_decide_eq_true h)); (try (have hp := of_decide_eq_false h)); (try contradiction); (try (exfalso; omega)))))); (try all_goals (try show retA _ _ _ _ _ _ _))
        all_goals first
          | (exfalso; omega)
          | (refine ⟨[_], [], ⟨resV_tmp (by conv => lhs; whnf), trivial⟩, VwOs.mk (by decide) trivial, ?_, rfl⟩; (repeat' (first | exact vwR rfl)); done)
          | (all_goals trace_state); fail
set_option maxRecDepth 20000 in
set_option maxHeartbeats 2000000 in
theorem formulaWrong_ac : ∀ (d : Nat) (k p : Int) (l : List Tr), 1 + kdep l ≤ d → (Tr.mk k p l).sml → AC Tryd.prog 80 [ta3 k p l] [] (.val (.int .i64 (Tr.mk k p l).ffm)) []
  | 0, k, p, l, hd, _ => by omega
  | d + 1, k, p, l, hd, hs => by
    have ih := formulaWrong_ac d
    unfold Tr.sml at hs
    obtain ⟨hll, hks⟩ := hs
    rw [ffm_eq]
    unfold ta3 at ih ⊢
    by_cases h1 : k < 1 ∨ 5 < k
    · rw [if_pos h1]
      rcases h1 with h1 | h1
      all_goals
        refine AC.mk (n := 67) (fn := Tryd.f80) Tryd.func80 (by kernel_rfl) rfl rfl rfl rfl (fun cx => ?_); dsimp only [argv, Nat.reduceAdd]
        (repeat' (first | refine a_seq ?_ | refine a_ret ?_ | refine a_region ?_ | refine l_nil ?_ | (apply w_q; (focus (first | exact Q_move (by conv => lhs; whnf) | exact Q_assign (by conv => lhs; whnf) | exact Q_fieldAddr_ptr rfl KFl.h | exact Q_load_ptr rfl rfl rfl KSc.h | exact Q_lss rfl rfl | exact Q_gtr rfl rfl | exact Q_pick_t rfl (by assumption) (by conv => lhs; whnf) | exact Q_pick_f rfl (by assumption) (by conv => lhs; whnf))); (focus exact rfl)) | (refine a_cond rfl ?_ ?_ <;> (intro h; (try (have hp := of_decide_eq_true h)); (try (have hp := of_decide_eq_false h)); (try contradiction); (try (exfalso; omega)))) | refine w_guard_y rfl rfl rfl (by first | assumption | rfl) ?_ | refine w_guard_n rfl rfl rfl (by first | assumption | rfl) ?_ | (refine w_guard rfl rfl rfl ?_ ?_ <;> (intro h; (try (have hp := of_decide_eq_true h)); (try (have hp := of_decide_eq_false h)); (try contradiction); (try (exfalso; omega)))) | refine w_box rfl rfl (by first|(dsimp only[obA,obB,obD,obE,obF,obG,obI,List.map,AO.sh,AV.sh,AV.shl,Nat.reduceAdd];done)|exact rfl) (by first|(dsimp only[obA,obB,obD,obE,obF,obG,obI,List.map,AO.sh,AV.sh,AV.shl,Nat.reduceAdd];done)|exact rfl) rfl ?_)); (try all_goals (try show retA _ _ _ _ _ _ _))
      all_goals first
        | (exfalso; omega)
        | (refine ⟨[_], [], ⟨resV_tmp (by conv => lhs; whnf), trivial⟩, VwOs.mk (by decide) trivial, ?_, rfl⟩; (repeat' (first | exact vwR rfl)); done)
        | (all_goals trace_state); fail
    rw [if_neg h1]
    have h12 : k ≤ 2 ∨ 2 < k := by omega
    by_cases h2 : (k ≤ 2 ∧ l.length ≠ 0) ∨ (2 < k ∧ l.length ≠ 2)
    · rw [if_pos h2]
      rcases h12 with h12 | h12
      all_goals
        refine AC.mk (n := 67) (fn := Tryd.f80) Tryd.func80 (by kernel_rfl) rfl rfl rfl rfl (fun cx => ?_); dsimp only [argv, Nat.reduceAdd]
        (repeat' (first | refine a_seq ?_ | refine a_skip ?_ | refine a_ret ?_ | refine a_region ?_ | refine l_nil ?_ | (apply w_q; (focus (first | exact Q_move (by conv => lhs; whnf) | exact Q_assign (by conv => lhs; whnf) | exact Q_fieldAddr_ptr rfl KFl.h | exact Q_load_ptr rfl rfl rfl KSc.h | exact Q_lss rfl rfl | exact Q_gtr rfl rfl | exact Q_geq rfl rfl | exact Q_neq rfl rfl | exact Q_pick_t rfl (by assumption) (by conv => lhs; whnf) | exact Q_pick_f rfl (by assumption) (by conv => lhs; whnf) | exact Q_pick_f rfl rfl (by conv => lhs; whnf))); (focus exact rfl)) | (refine a_cond rfl ?_ ?_ <;> (intro h; (try (have hp := of_decide_eq_true h)); (try (have hp := of_decide_eq_false h)); (try contradiction); (try (exfalso; omega)))) | refine w_guard_u rfl rfl rfl ?_ | refine w_guard_y rfl rfl rfl (by first | assumption | rfl) ?_ | refine w_guard_n rfl rfl rfl (by first | assumption | rfl) ?_ | (refine w_guard rfl rfl rfl ?_ ?_ <;> (intro h; (try (have hp := of_decide_eq_true h)); (try (have hp := of_decide_eq_false h)); (try contradiction); (try (exfalso; omega)))) | refine w_box rfl rfl (by first|(dsimp only[obA,obB,obD,obE,obF,obG,obI,List.map,AO.sh,AV.sh,AV.shl,Nat.reduceAdd];done)|exact rfl) (by first|(dsimp only[obA,obB,obD,obE,obF,obG,obI,List.map,AO.sh,AV.sh,AV.shl,Nat.reduceAdd];done)|exact rfl) rfl ?_ | (((first | apply w_q); (focus exact Q_len_kid rfl KSl.h); (focus exact rfl))))); (try all_goals (try show retA _ _ _ _ _ _ _))
      all_goals first
        | (exfalso; omega)
        | (refine ⟨[_], [], ⟨resV_tmp (by conv => lhs; whnf), trivial⟩, VwOs.mk (by decide) trivial, ?_, rfl⟩; (repeat' (first | exact vwR rfl)); done)
        | (all_goals trace_state); fail
    rw [if_neg h2]
    by_cases h3 : p < 0 ∨ 3 ≤ p ∨ (k ≠ 2 ∧ p ≠ 0)
    · rw [if_pos h3]
      rcases h12 with h12 | h12
      all_goals
        refine AC.mk (n := 67) (fn := Tryd.f80) Tryd.func80 (by kernel_rfl) rfl rfl rfl rfl (fun cx => ?_); dsimp only [argv, Nat.reduceAdd]
        (repeat' (first | refine a_seq ?_ | refine a_skip ?_ | refine a_ret ?_ | refine a_region ?_ | refine l_nil ?_ | (apply w_q; (focus (first | exact Q_move (by conv => lhs; whnf) | exact Q_assign (by conv => lhs; whnf) | exact Q_fieldAddr_ptr rfl KFl.h | exact Q_load_ptr rfl rfl rfl KSc.h | exact Q_lss rfl rfl | exact Q_gtr rfl rfl | exact Q_geq rfl rfl | exact Q_neq rfl rfl | exact Q_pick_t rfl (by assumption) (by conv => lhs; whnf) | exact Q_pick_f rfl (by assumption) (by conv => lhs; whnf) | exact Q_pick_t rfl rfl (by conv => lhs; whnf) | exact Q_pick_f rfl rfl (by conv => lhs; whnf))); (focus exact rfl)) | (refine a_cond rfl ?_ ?_ <;> (intro h; (try (have hp := of_decide_eq_true h)); (try (have hp := of_decide_eq_false h)); (try contradiction); (try (exfalso; omega)))) | refine w_guard_u rfl rfl rfl ?_ | refine w_guard_y rfl rfl rfl (by first | assumption | rfl) ?_ | refine w_guard_n rfl rfl rfl (by first | assumption | rfl) ?_ | (refine w_guard rfl rfl rfl ?_ ?_ <;> (intro h; (try (have hp := of_decide_eq_true h)); (try (have hp := of_decide_eq_false h)); (try contradiction); (try (exfalso; omega)))) | refine w_box rfl rfl (by first|(dsimp only[obA,obB,obD,obE,obF,obG,obI,List.map,AO.sh,AV.sh,AV.shl,Nat.reduceAdd];done)|exact rfl) (by first|(dsimp only[obA,obB,obD,obE,obF,obG,obI,List.map,AO.sh,AV.sh,AV.shl,Nat.reduceAdd];done)|exact rfl) rfl ?_ | (((first | apply w_q); (focus exact Q_len_kid rfl KSl.h); (focus exact rfl))))); (try all_goals (try show retA _ _ _ _ _ _ _))
      all_goals first
        | (exfalso; omega)
        | (refine ⟨[_], [], ⟨resV_tmp (by conv => lhs; whnf), trivial⟩, VwOs.mk (by decide) trivial, ?_, rfl⟩; (repeat' (first | exact vwR rfl)); done)
        | (all_goals trace_state); fail
    rw [if_neg h3]
    rcases h12 with h12 | h12
    all_goals
      refine AC.mk (n := 67) (fn := Tryd.f80) Tryd.func80 (by kernel_rfl) rfl rfl rfl rfl (fun cx => ?_); dsimp only [argv, Nat.reduceAdd]
      (repeat' (first | refine a_seq ?_ | refine a_block ?_ | refine a_skip ?_ | refine a_region ?_ | refine l_nil ?_ | (apply w_q; (focus (first | exact Q_move (by conv => lhs; whnf) | exact Q_assign (by conv => lhs; whnf) | exact Q_fieldAddr_ptr rfl KFl.h | exact Q_load_ptr rfl rfl rfl KSc.h | exact Q_lss rfl rfl | exact Q_gtr rfl rfl | exact Q_geq rfl rfl | exact Q_neq rfl rfl | exact Q_pick_t rfl (by assumption) (by conv => lhs; whnf) | exact Q_pick_f rfl (by assumption) (by conv => lhs; whnf) | exact Q_pick_f rfl rfl (by conv => lhs; whnf))); (focus exact rfl)) | (refine a_cond rfl ?_ ?_ <;> (intro h; (try (have hp := of_decide_eq_true h)); (try (have hp := of_decide_eq_false h)); (try contradiction); (try (exfalso; omega)))) | refine w_guard_y rfl rfl rfl (by first | assumption | rfl) ?_ | refine w_guard_n rfl rfl rfl (by first | assumption | rfl) ?_ | (refine w_guard rfl rfl rfl ?_ ?_ <;> (intro h; (try (have hp := of_decide_eq_true h)); (try (have hp := of_decide_eq_false h)); (try contradiction); (try (exfalso; omega)))) | refine w_box rfl rfl (by first|(dsimp only[obA,obB,obD,obE,obF,obG,obI,List.map,AO.sh,AV.sh,AV.shl,Nat.reduceAdd];done)|exact rfl) (by first|(dsimp only[obA,obB,obD,obE,obF,obG,obI,List.map,AO.sh,AV.sh,AV.shl,Nat.reduceAdd];done)|exact rfl) rfl ?_ | (((first | apply w_q); (focus exact Q_len_kid rfl KSl.h); (focus exact rfl))))); (try all_goals (try show retA _ _ _ _ _ _ _))
    all_goals first
      | (exfalso; omega)
      | skip
    all_goals
      refine w_loop (X := Nat) [1] (by simp only [keepv, getv_cons, Nat.reduceEqDiff, ↓reduceIte]; exact rfl) (fun i => [(3, .val (.int .i64 (i : Nat)))]) (fun i => [.box [.val (.int .i64 k), .val (.int .i64 p), tks l]]) (fun i => i ≤ l.length ∧ kffm l = kffm (l.drop i)) (fun i => l.length - i) (0) ([0]) ?_ ?_ rfl ?_ <;> (try dsimp only [List.cons_append, List.nil_append])
      · exact ⟨Nat.zero_le _, rfl⟩
      · (refine St.le_mk rfl (VwOs.mk (by decide) ?_) ?_ <;> (repeat' (first | exact trivial | exact vwR rfl | exact Vw.ro _ | exact Vw.ptr _ _ _ rfl | refine VwO.box' ?_ | refine ⟨⟨_, rfl, ?_⟩, ?_⟩ | refine ⟨?_, ?_⟩ )))
      rintro i ⟨hi, hf⟩
      by_cases hil : i < l.length
      · have hdp := dep_kid hil
        have hdr := kffm_drop hil
        have hsk := ksml_get hks hil
        rcases hk : l[i] with ⟨k2, p1, r⟩
        rw [hk] at hdp hdr hsk
        have c2 : (Tr.mk k2 p1 r).dep = 1 + kdep r := by unfold Tr.dep; rfl
        have call := ih k2 p1 r (by omega) hsk
        rw [hdr] at hf
        clear hdr
        generalize (Tr.mk k2 p1 r).ffm = X at *
        clear ih hdp c2 h1 h2 h3 hks hsk
        by_cases hX : X = 0
        · subst hX
          rw [if_neg (by omega)] at hf
          (repeat' (first | refine a_seq ?_ | refine a_block ?_ | refine a_skip ?_ | refine a_region ?_ | refine l_nil ?_ | (apply w_q; (focus (first | exact Q_move (by conv => lhs; whnf) | exact Q_assign (by conv => lhs; whnf) | exact Q_fieldAddr_ptr rfl KFl.h | exact Q_load_ptr rfl rfl rfl KSc.h | exact Q_lss rfl rfl | exact Q_neq rfl rfl | exact Q_add rfl rfl (by omega))); (focus exact rfl)) | (refine a_cond rfl ?_ ?_ <;> (intro h; (try (have hp := of_decide_eq_true h)); (try (have hp := of_decide_eq_false h)); (try contradiction); (try (exfalso; omega)))) | (((first | apply w_q); (focus exact Q_len_kid rfl KSl.h); (focus exact rfl))) | (((first | apply w_q); (focus exact Q_ix_kid rfl rfl rfl KSl.h hil); (focus exact rfl))) | (((first | apply w_q); (focus exact Q_ld_kid rfl hil hk KAg.h); (focus exact rfl))) | ((refine w_callV (.inl ⟨rfl, rfl⟩) (call) ?_ (by first | (dsimp only [AV.sh, AV.shl, sh_ints, sh_rows, sh_pairs, sh_ords]; done) | exact rfl) rfl ?_; rotate_left 0; (focus ((repeat' (first | exact trivial | exact Vs.val _ | exact Vs.ro _ | refine Vs.agg' ?_ | refine ⟨?_, ?_⟩)); done)); rotate_left 1; all_goals (try (skip)))))); (try all_goals (try show retA _ _ _ _ _ _ _))
          all_goals first
            | (exfalso; omega)
            | (try dsimp only [thenA, blockA]
               refine ⟨i + 1, [0], ?_, ?_, ?_, rfl⟩ <;> (try dsimp only)
               · exact ⟨by omega, hf⟩
               · omega
               · (refine St.le_mk rfl (VwOs.mk (by decide) ?_) ?_ <;> (repeat' (first | exact trivial | exact vwR rfl | exact Vw.ro _ | exact Vw.ptr _ _ _ rfl | refine VwO.box' ?_ | refine ⟨⟨_, rfl, ?_⟩, ?_⟩ | refine ⟨?_, ?_⟩ ))))
            | (all_goals trace_state); fail
        · rw [if_pos hX] at hf
          rw [hf]
          (repeat' (first | refine a_seq ?_ | refine a_block ?_ | refine a_skip ?_ | refine a_ret ?_ | refine a_region ?_ | refine l_nil ?_ | (apply w_q; (focus (first | exact Q_move (by conv => lhs; whnf) | exact Q_assign (by conv => lhs; whnf) | exact Q_fieldAddr_ptr rfl KFl.h | exact Q_load_ptr rfl rfl rfl KSc.h | exact Q_lss rfl rfl | exact Q_neq rfl rfl)); (focus exact rfl)) | (refine a_cond rfl ?_ ?_ <;> (intro h; (try (have hp := of_decide_eq_true h)); (try (have hp := of_decide_eq_false h)); (try contradiction); (try (exfalso; omega)))) | (((first | apply w_q); (focus exact Q_len_kid rfl KSl.h); (focus exact rfl))) | (((first | apply w_q); (focus exact Q_ix_kid rfl rfl rfl KSl.h hil); (focus exact rfl))) | (((first | apply w_q); (focus exact Q_ld_kid rfl hil hk KAg.h); (focus exact rfl))) | ((refine w_callV (.inl ⟨rfl, rfl⟩) (call) ?_ (by first | (dsimp only [AV.sh, AV.shl, sh_ints, sh_rows, sh_pairs, sh_ords]; done) | exact rfl) rfl ?_; rotate_left 0; (focus ((repeat' (first | exact trivial | exact Vs.val _ | exact Vs.ro _ | refine Vs.agg' ?_ | refine ⟨?_, ?_⟩)); done)); rotate_left 1; all_goals (try (skip)))))); (try all_goals (try show retA _ _ _ _ _ _ _))
          all_goals first
            | (exfalso; omega)
            | (refine ⟨[_], [], ⟨resV_tmp (by conv => lhs; whnf), trivial⟩, VwOs.mk (by decide) trivial, ?_, rfl⟩; (repeat' (first | exact vwR rfl)); done)
            | (all_goals trace_state); fail
      · have hz : kffm l = 0 := by
          rw [hf, List.drop_eq_nil_of_le (by omega), kffm_nil]
        rw [hz]
        (repeat' (first | refine a_seq ?_ | refine a_ret ?_ | refine a_exit ?_ | refine a_region ?_ | refine l_nil ?_ | (apply w_q; (focus (first | exact Q_move (by conv => lhs; whnf) | exact Q_assign (by conv => lhs; whnf) | exact Q_fieldAddr_ptr rfl KFl.h | exact Q_load_ptr rfl rfl rfl KSc.h | exact Q_lss rfl rfl)); (focus exact rfl)) | (refine a_cond rfl ?_ ?_ <;> (intro h; (try (have hp := of_decide_eq_true h)); (try (have hp := of_decide_eq_false h)); (try contradiction); (try (exfalso; omega)))) | (((first | apply w_q); (focus exact Q_len_kid rfl KSl.h); (focus exact rfl))))); (try all_goals (try show retA _ _ _ _ _ _ _))
        all_goals first
          | (exfalso; omega)
          | (refine ⟨[_], [], ⟨resV_tmp (by conv => lhs; whnf), trivial⟩, VwOs.mk (by decide) trivial, ?_, rfl⟩; (repeat' (first | exact vwR rfl)); done)
          | (all_goals trace_state); fail
set_option maxRecDepth 20000 in
theorem FormulaCount_ac : ∀ (d : Nat) (k p : Int) (l : List Tr) (m : Nat), 1 + kdep l ≤ d → 1 + kcnt l ≤ 100000000 → m ≤ 1000 → AC Tryd.prog 79 [ta3 k p l, .val (.int .i64 m)] [] (.val (.int .i64 ((min (1 + kcnt l) (m + 1) : Nat) : Int))) []
  | 0, k, p, l, m, hd, _, _ => by omega
  | d + 1, k, p, l, m, hd, hb, hm => by
    have ih := FormulaCount_ac d
    unfold ta3 at ih ⊢
    refine AC.mk (n := 36) (fn := Tryd.f79) Tryd.func79 (by kernel_rfl) rfl rfl rfl rfl (fun cx => ?_); dsimp only [argv, Nat.reduceAdd]
    (repeat' (first | refine a_seq ?_ | refine a_block ?_ | refine a_region ?_ | refine l_nil ?_ | (apply w_q; (focus (first | exact Q_assign (by conv => lhs; whnf))); (focus exact rfl)) | refine w_box rfl rfl (by first|(dsimp only[obA,obB,obD,obE,obF,obG,obI,List.map,AO.sh,AV.sh,AV.shl,Nat.reduceAdd];done)|exact rfl) (by first|(dsimp only[obA,obB,obD,obE,obF,obG,obI,List.map,AO.sh,AV.sh,AV.shl,Nat.reduceAdd];done)|exact rfl) rfl ?_)); (try all_goals (try show retA _ _ _ _ _ _ _))
    refine w_loop (X := Nat) [1, 2] (by simp only [keepv, getv_cons, Nat.reduceEqDiff, ↓reduceIte]; exact rfl) (fun i => [(5, .val (.int .i64 ((min (1 + kcnt (l.take i)) (m + 1) : Nat) : Int))), (6, .val (.int .i64 (i : Nat)))]) (fun i => [.box [.val (.int .i64 k), .val (.int .i64 p), tks l]]) (fun i => i ≤ l.length) (fun i => l.length - i) (0) ([0]) ?_ ?_ rfl ?_ <;> (try dsimp only [List.cons_append, List.nil_append])
    · exact Nat.zero_le _
    · rw [show min (1 + kcnt (l.take 0)) (m + 1) = 1 by rw [List.take_zero]; unfold kcnt; omega]
      (refine St.le_mk rfl (VwOs.mk (by decide) ?_) ?_ <;> (repeat' (first | exact trivial | exact vwR rfl | exact Vw.ro _ | exact Vw.ptr _ _ _ rfl | refine VwO.box' ?_ | refine ⟨⟨_, rfl, ?_⟩, ?_⟩ | refine ⟨?_, ?_⟩ )))
    rintro i hi
    have hll := kcnt_len l
    by_cases hil : i < l.length
    · have hmo := kcnt_mono l (i + 1)
      have hmo' := kcnt_mono l i
      have ht := kcnt_take hil
      have hdp := dep_kid hil
      rcases hk : l[i] with ⟨k1, p1, r⟩
      rw [hk] at ht hdp
      have c1 : (Tr.mk k1 p1 r).cnt = 1 + kcnt r := by unfold Tr.cnt; rfl
      have c2 : (Tr.mk k1 p1 r).dep = 1 + kdep r := by unfold Tr.dep; rfl
      by_cases hn : 1 + kcnt (l.take i) ≤ m
      · have e0 : min (1 + kcnt (l.take i)) (m + 1) = 1 + kcnt (l.take i) := by omega
        have call := ih k1 p1 r (m - (1 + kcnt (l.take i))) (by omega) (by omega) (by omega)
        rw [show ((m - (1 + kcnt (l.take i)) : Nat) : Int) = (m : Int) - ((1 + kcnt (l.take i) : Nat) : Int) by omega] at call
        have e1 : min (1 + kcnt (l.take (i + 1))) (m + 1) = (1 + kcnt (l.take i)) + min (1 + kcnt r) (m - (1 + kcnt (l.take i)) + 1) := by omega
        rw [e0]
        have b4 : min (1 + kcnt r) (m - (1 + kcnt (l.take i)) + 1) ≤ 100000000 := by omega
        generalize min (1 + kcnt r) (m - (1 + kcnt (l.take i)) + 1) = w at *
        generalize 1 + kcnt (l.take i) = v at *
        clear ih ht hdp c1 c2
        (repeat' (first | refine a_seq ?_ | refine a_block ?_ | refine a_skip ?_ | refine a_region ?_ | refine l_nil ?_ | (apply w_q; (focus (first | exact Q_move (by conv => lhs; whnf) | exact Q_assign (by conv => lhs; whnf) | exact Q_fieldAddr_ptr rfl KFl.h | exact Q_load_ptr rfl rfl rfl KSc.h | exact Q_lss rfl rfl | exact Q_leq rfl rfl | exact Q_add rfl rfl (by omega) | exact Q_sub rfl rfl (by omega) | exact Q_pick_t rfl (by assumption) (by conv => lhs; whnf))); (focus exact rfl)) | (refine a_cond rfl ?_ ?_ <;> (intro h; (try (have hp := of_decide_eq_true h)); (try (have hp := of_decide_eq_false h)); (try contradiction); (try (exfalso; omega)))) | refine w_guard_y rfl rfl rfl (by first | assumption | rfl) ?_ | (refine w_guard rfl rfl rfl ?_ ?_ <;> (intro h; (try (have hp := of_decide_eq_true h)); (try (have hp := of_decide_eq_false h)); (try contradiction); (try (exfalso; omega)))) | (((first | apply w_q); (focus exact Q_len_kid rfl KSl.h); (focus exact rfl))) | (((first | apply w_q); (focus exact Q_ix_kid rfl rfl rfl KSl.h hil); (focus exact rfl))) | (((first | apply w_q); (focus exact Q_ld_kid rfl hil hk KAg.h); (focus exact rfl))) | ((refine w_callV (.inl ⟨rfl, rfl⟩) (call) ?_ (by first | (dsimp only [AV.sh, AV.shl, sh_ints, sh_rows, sh_pairs, sh_ords]; done) | exact rfl) rfl ?_; rotate_left 0; (focus ((repeat' (first | exact trivial | exact Vs.val _ | exact Vs.ro _ | refine Vs.agg' ?_ | refine ⟨?_, ?_⟩)); done)); rotate_left 1; all_goals (try (skip)))))); (try all_goals (try show retA _ _ _ _ _ _ _))
        all_goals first
          | (exfalso; omega)
          | (try dsimp only [thenA, blockA]
             rw [show ((v : Int) + (w : Int)) = ((min (1 + kcnt (l.take (i + 1))) (m + 1) : Nat) : Int) by rw [e1]; omega]
             refine ⟨i + 1, [0], ?_, ?_, ?_, rfl⟩ <;> (try dsimp only)
             · omega
             · omega
             · (refine St.le_mk rfl (VwOs.mk (by decide) ?_) ?_ <;> (repeat' (first | exact trivial | exact vwR rfl | exact Vw.ro _ | exact Vw.ptr _ _ _ rfl | refine VwO.box' ?_ | refine ⟨⟨_, rfl, ?_⟩, ?_⟩ | refine ⟨?_, ?_⟩ ))))
          | (all_goals trace_state); fail
      · have e0 : min (1 + kcnt (l.take i)) (m + 1) = m + 1 := by omega
        have e1 : min (1 + kcnt l) (m + 1) = m + 1 := by omega
        rw [e0, e1]
        clear ih ht hdp c1 c2
        (repeat' (first | refine a_seq ?_ | refine a_ret ?_ | refine a_exit ?_ | refine a_region ?_ | refine l_nil ?_ | (apply w_q; (focus (first | exact Q_move (by conv => lhs; whnf) | exact Q_assign (by conv => lhs; whnf) | exact Q_fieldAddr_ptr rfl KFl.h | exact Q_load_ptr rfl rfl rfl KSc.h | exact Q_lss rfl rfl | exact Q_leq rfl rfl | exact Q_gtr rfl rfl | exact Q_add rfl rfl (by omega) | exact Q_pick_t rfl (by assumption) (by conv => lhs; whnf))); (focus exact rfl)) | (refine a_cond rfl ?_ ?_ <;> (intro h; (try (have hp := of_decide_eq_true h)); (try (have hp := of_decide_eq_false h)); (try contradiction); (try (exfalso; omega)))) | refine w_guard_y rfl rfl rfl (by first | assumption | rfl) ?_ | (refine w_guard rfl rfl rfl ?_ ?_ <;> (intro h; (try (have hp := of_decide_eq_true h)); (try (have hp := of_decide_eq_false h)); (try contradiction); (try (exfalso; omega)))) | (((first | apply w_q); (focus exact Q_len_kid rfl KSl.h); (focus exact rfl))))); (try all_goals (try show retA _ _ _ _ _ _ _))
        all_goals first
          | (exfalso; omega)
          | (refine ⟨[_], [], ⟨resV_tmp (by conv => lhs; whnf), trivial⟩, VwOs.mk (by decide) trivial, ?_, rfl⟩; (repeat' (first | exact vwR rfl)); done)
          | (all_goals trace_state); fail
    · obtain rfl : i = l.length := by omega
      rw [List.take_length]
      by_cases hn : 1 + kcnt l ≤ m
      · have e0 : min (1 + kcnt l) (m + 1) = 1 + kcnt l := by omega
        rw [e0]
        (repeat' (first | refine a_seq ?_ | refine a_skip ?_ | refine a_ret ?_ | refine a_exit ?_ | refine a_region ?_ | refine l_nil ?_ | (apply w_q; (focus (first | exact Q_move (by conv => lhs; whnf) | exact Q_assign (by conv => lhs; whnf) | exact Q_fieldAddr_ptr rfl KFl.h | exact Q_load_ptr rfl rfl rfl KSc.h | exact Q_lss rfl rfl | exact Q_gtr rfl rfl | exact Q_pick_f rfl (by assumption) (by conv => lhs; whnf))); (focus exact rfl)) | (refine a_cond rfl ?_ ?_ <;> (intro h; (try (have hp := of_decide_eq_true h)); (try (have hp := of_decide_eq_false h)); (try contradiction); (try (exfalso; omega)))) | refine w_guard_n rfl rfl rfl (by first | assumption | rfl) ?_ | (refine w_guard rfl rfl rfl ?_ ?_ <;> (intro h; (try (have hp := of_decide_eq_true h)); (try (have hp := of_decide_eq_false h)); (try contradiction); (try (exfalso; omega)))) | (((first | apply w_q); (focus exact Q_len_kid rfl KSl.h); (focus exact rfl))))); (try all_goals (try show retA _ _ _ _ _ _ _))
        all_goals first
          | (exfalso; omega)
          | (refine ⟨[_], [], ⟨resV_tmp (by conv => lhs; whnf), trivial⟩, VwOs.mk (by decide) trivial, ?_, rfl⟩; (repeat' (first | exact vwR rfl)); done)
          | (all_goals trace_state); fail
      · have e0 : min (1 + kcnt l) (m + 1) = m + 1 := by omega
        rw [e0]
        (repeat' (first | refine a_seq ?_ | refine a_ret ?_ | refine a_exit ?_ | refine a_region ?_ | refine l_nil ?_ | (apply w_q; (focus (first | exact Q_move (by conv => lhs; whnf) | exact Q_assign (by conv => lhs; whnf) | exact Q_fieldAddr_ptr rfl KFl.h | exact Q_load_ptr rfl rfl rfl KSc.h | exact Q_lss rfl rfl | exact Q_gtr rfl rfl | exact Q_add rfl rfl (by omega) | exact Q_pick_f rfl (by assumption) (by conv => lhs; whnf))); (focus exact rfl)) | (refine a_cond rfl ?_ ?_ <;> (intro h; (try (have hp := of_decide_eq_true h)); (try (have hp := of_decide_eq_false h)); (try contradiction); (try (exfalso; omega)))) | refine w_guard_n rfl rfl rfl (by first | assumption | rfl) ?_ | (refine w_guard rfl rfl rfl ?_ ?_ <;> (intro h; (try (have hp := of_decide_eq_true h)); (try (have hp := of_decide_eq_false h)); (try contradiction); (try (exfalso; omega)))) | (((first | apply w_q); (focus exact Q_len_kid rfl KSl.h); (focus exact rfl))))); (try all_goals (try show retA _ _ _ _ _ _ _))
        all_goals first
          | (exfalso; omega)
          | (refine ⟨[_], [], ⟨resV_tmp (by conv => lhs; whnf), trivial⟩, VwOs.mk (by decide) trivial, ?_, rfl⟩; (repeat' (first | exact vwR rfl)); done)
          | (all_goals trace_state); fail
/-- What is wrong with a formula, as it is counted in 64 bits. -/
def fcw (t : Tr) : Int := if 30 < IntKind.i64.wrap (t.cnt : Int) then 2 else t.ffm
def fmck (t : Tr) : Int := if 30 < t.cnt then 2 else t.ffm
theorem fcw_fmck {t : Tr} (h : t.cnt ≤ 100000000) : fcw t = fmck t := by
  unfold fcw fmck
  rw [IntWalk.i64_in _ (by omega)]
  by_cases h1 : 30 < t.cnt
  · rw [if_pos (by omega), if_pos h1]
  · rw [if_neg (by omega), if_neg h1]
set_option maxRecDepth 20000 in
theorem fcheckW_ac (k p : Int) (l : List Tr) (hs : (Tr.mk k p l).sml) : AC Tryd.prog 34 [ta3 k p l] [] (.val (.int .i64 (fcw (.mk k p l)))) [] := by
  have k1 := fcountW_ac (1 + kdep l) k p l (Nat.le_refl _) hs
  have k2 := fformW_ac (1 + kdep l) k p l (Nat.le_refl _) hs
  have ec : (Tr.mk k p l).cnt = 1 + kcnt l := by unfold Tr.cnt; rfl
  unfold fcw
  rw [ec]
  generalize IntKind.i64.wrap ((1 + kcnt l : Nat) : Int) = W at *
  generalize (Tr.mk k p l).ffm = F at *
  unfold ta3 at *
  by_cases h : 30 < W
  · rw [if_pos h]
    refine AC.mk (n := 8) (fn := Tryd.f34) Tryd.func34 (by kernel_rfl) rfl rfl rfl rfl (fun cx => ?_); dsimp only [argv, Nat.reduceAdd]
    (repeat' (first | refine a_seq ?_ | refine a_ret ?_ | refine a_region ?_ | refine l_nil ?_ | (apply w_q; (focus (first | exact Q_assign (by conv => lhs; whnf) | exact Q_load_all rfl rfl KAg.h | exact Q_gtr rfl rfl)); (focus exact rfl)) | (refine a_cond rfl ?_ ?_ <;> (intro h; (try (have hp := of_decide_eq_true h)); (try (have hp := of_decide_eq_false h)); (try contradiction); (try (exfalso; omega)))) | refine w_box rfl rfl (by first|(dsimp only[obA,obB,obD,obE,obF,obG,obI,List.map,AO.sh,AV.sh,AV.shl,Nat.reduceAdd];done)|exact rfl) (by first|(dsimp only[obA,obB,obD,obE,obF,obG,obI,List.map,AO.sh,AV.sh,AV.shl,Nat.reduceAdd];done)|exact rfl) rfl ?_ | ((refine w_callV (.inl ⟨rfl, rfl⟩) (k1) ?_ (by first | (dsimp only [AV.sh, AV.shl, sh_ints, sh_rows, sh_pairs, sh_ords]; done) | exact rfl) rfl ?_; rotate_left 0; (focus ((repeat' (first | exact trivial | exact Vs.val _ | exact Vs.ro _ | refine Vs.agg' ?_ | refine ⟨?_, ?_⟩)); done)); rotate_left 1; all_goals (try (skip)))))); (try all_goals (try show retA _ _ _ _ _ _ _))
    all_goals first
      | (exfalso; omega)
      | (refine ⟨[_], [], ⟨resV_tmp (by conv => lhs; whnf), trivial⟩, VwOs.mk (by decide) trivial, ?_, rfl⟩; (repeat' (first | exact vwR rfl)); done)
      | (all_goals trace_state); fail
  · rw [if_neg h]
    refine AC.mk (n := 8) (fn := Tryd.f34) Tryd.func34 (by kernel_rfl) rfl rfl rfl rfl (fun cx => ?_); dsimp only [argv, Nat.reduceAdd]
    (repeat' (first | refine a_seq ?_ | refine a_skip ?_ | refine a_ret ?_ | refine a_region ?_ | refine l_nil ?_ | (apply w_q; (focus (first | exact Q_assign (by conv => lhs; whnf) | exact Q_load_all rfl rfl KAg.h | exact Q_gtr rfl rfl)); (focus exact rfl)) | (refine a_cond rfl ?_ ?_ <;> (intro h; (try (have hp := of_decide_eq_true h)); (try (have hp := of_decide_eq_false h)); (try contradiction); (try (exfalso; omega)))) | refine w_box rfl rfl (by first|(dsimp only[obA,obB,obD,obE,obF,obG,obI,List.map,AO.sh,AV.sh,AV.shl,Nat.reduceAdd];done)|exact rfl) (by first|(dsimp only[obA,obB,obD,obE,obF,obG,obI,List.map,AO.sh,AV.sh,AV.shl,Nat.reduceAdd];done)|exact rfl) rfl ?_ | ((refine w_callV (.inl ⟨rfl, rfl⟩) (k1) ?_ (by first | (dsimp only [AV.sh, AV.shl, sh_ints, sh_rows, sh_pairs, sh_ords]; done) | exact rfl) rfl ?_; rotate_left 0; (focus ((repeat' (first | exact trivial | exact Vs.val _ | exact Vs.ro _ | refine Vs.agg' ?_ | refine ⟨?_, ?_⟩)); done)); rotate_left 1; all_goals (try (skip)))) | ((refine w_callV (.inl ⟨rfl, rfl⟩) (k2) ?_ (by first | (dsimp only [AV.sh, AV.shl, sh_ints, sh_rows, sh_pairs, sh_ords]; done) | exact rfl) rfl ?_; rotate_left 0; (focus ((repeat' (first | exact trivial | exact Vs.val _ | exact Vs.ro _ | refine Vs.agg' ?_ | refine ⟨?_, ?_⟩)); done)); rotate_left 1; all_goals (try (skip)))))); (try all_goals (try show retA _ _ _ _ _ _ _))
    all_goals first
      | (exfalso; omega)
      | (refine ⟨[_], [], ⟨resV_tmp (by conv => lhs; whnf), trivial⟩, VwOs.mk (by decide) trivial, ?_, rfl⟩; (repeat' (first | exact vwR rfl)); done)
      | (all_goals trace_state); fail
set_option maxRecDepth 20000 in
theorem CheckFormula_ac (k p : Int) (l : List Tr) (hb : 1 + kcnt l ≤ 100000000) : AC Tryd.prog 35 [ta3 k p l] [] (.val (.int .i64 (fmck (.mk k p l)))) [] := by
  have k1 := FormulaCount_ac (1 + kdep l) k p l 30 (Nat.le_refl _) hb (by decide)
  have ec : (Tr.mk k p l).cnt = 1 + kcnt l := by unfold Tr.cnt; rfl
  have k2 := formulaWrong_ac (1 + kdep l) k p l (Nat.le_refl _) (sml_cnt _ (by rw [ec]; omega))
  unfold fmck
  rw [ec]
  generalize 1 + kcnt l = c at *
  generalize (Tr.mk k p l).ffm = F at *
  unfold ta3 at *
  by_cases h : 30 < c
  · rw [if_pos h]
    refine AC.mk (n := 8) (fn := Tryd.f35) Tryd.func35 (by kernel_rfl) rfl rfl rfl rfl (fun cx => ?_); dsimp only [argv, Nat.reduceAdd]
    (repeat' (first | refine a_seq ?_ | refine a_ret ?_ | refine a_region ?_ | refine l_nil ?_ | (apply w_q; (focus (first | exact Q_assign (by conv => lhs; whnf) | exact Q_load_all rfl rfl KAg.h | exact Q_gtr rfl rfl)); (focus exact rfl)) | (refine a_cond rfl ?_ ?_ <;> (intro h; (try (have hp := of_decide_eq_true h)); (try (have hp := of_decide_eq_false h)); (try contradiction); (try (exfalso; omega)))) | refine w_box rfl rfl (by first|(dsimp only[obA,obB,obD,obE,obF,obG,obI,List.map,AO.sh,AV.sh,AV.shl,Nat.reduceAdd];done)|exact rfl) (by first|(dsimp only[obA,obB,obD,obE,obF,obG,obI,List.map,AO.sh,AV.sh,AV.shl,Nat.reduceAdd];done)|exact rfl) rfl ?_ | ((refine w_callV (.inl ⟨rfl, rfl⟩) (k1) ?_ (by first | (dsimp only [AV.sh, AV.shl, sh_ints, sh_rows, sh_pairs, sh_ords]; done) | exact rfl) rfl ?_; rotate_left 0; (focus ((repeat' (first | exact trivial | exact Vs.val _ | exact Vs.ro _ | refine Vs.agg' ?_ | refine ⟨?_, ?_⟩)); done)); rotate_left 1; all_goals (try (skip)))))); (try all_goals (try show retA _ _ _ _ _ _ _))
    all_goals first
      | (exfalso; omega)
      | (refine ⟨[_], [], ⟨resV_tmp (by conv => lhs; whnf), trivial⟩, VwOs.mk (by decide) trivial, ?_, rfl⟩; (repeat' (first | exact vwR rfl)); done)
      | (all_goals trace_state); fail
  · rw [if_neg h]
    refine AC.mk (n := 8) (fn := Tryd.f35) Tryd.func35 (by kernel_rfl) rfl rfl rfl rfl (fun cx => ?_); dsimp only [argv, Nat.reduceAdd]
    (repeat' (first | refine a_seq ?_ | refine a_skip ?_ | refine a_ret ?_ | refine a_region ?_ | refine l_nil ?_ | (apply w_q; (focus (first | exact Q_assign (by conv => lhs; whnf) | exact Q_load_all rfl rfl KAg.h | exact Q_gtr rfl rfl)); (focus exact rfl)) | (refine a_cond rfl ?_ ?_ <;> (intro h; (try (have hp := of_decide_eq_true h)); (try (have hp := of_decide_eq_false h)); (try contradiction); (try (exfalso; omega)))) | refine w_box rfl rfl (by first|(dsimp only[obA,obB,obD,obE,obF,obG,obI,List.map,AO.sh,AV.sh,AV.shl,Nat.reduceAdd];done)|exact rfl) (by first|(dsimp only[obA,obB,obD,obE,obF,obG,obI,List.map,AO.sh,AV.sh,AV.shl,Nat.reduceAdd];done)|exact rfl) rfl ?_ | ((refine w_callV (.inl ⟨rfl, rfl⟩) (k1) ?_ (by first | (dsimp only [AV.sh, AV.shl, sh_ints, sh_rows, sh_pairs, sh_ords]; done) | exact rfl) rfl ?_; rotate_left 0; (focus ((repeat' (first | exact trivial | exact Vs.val _ | exact Vs.ro _ | refine Vs.agg' ?_ | refine ⟨?_, ?_⟩)); done)); rotate_left 1; all_goals (try (skip)))) | ((refine w_callV (.inl ⟨rfl, rfl⟩) (k2) ?_ (by first | (dsimp only [AV.sh, AV.shl, sh_ints, sh_rows, sh_pairs, sh_ords]; done) | exact rfl) rfl ?_; rotate_left 0; (focus ((repeat' (first | exact trivial | exact Vs.val _ | exact Vs.ro _ | refine Vs.agg' ?_ | refine ⟨?_, ?_⟩)); done)); rotate_left 1; all_goals (try (skip)))))); (try all_goals (try show retA _ _ _ _ _ _ _))
    all_goals first
      | (exfalso; omega)
      | (refine ⟨[_], [], ⟨resV_tmp (by conv => lhs; whnf), trivial⟩, VwOs.mk (by decide) trivial, ?_, rfl⟩; (repeat' (first | exact vwR rfl)); done)
      | (all_goals trace_state); fail
end Go.Proofs.YtbgecpjlopdkfaaDoor
