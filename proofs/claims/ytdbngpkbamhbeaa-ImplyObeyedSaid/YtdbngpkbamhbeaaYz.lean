import Derived.Test.YtdbngpkbamhbeaaYy
set_option linter.unusedSimpArgs false
set_option linter.unusedVariables false
set_option linter.unusedSectionVars false
set_option maxRecDepth 20000
namespace Go.Proofs.Ytdbngpkbamhbeaa
attribute [local irreducible] QOp aL aC qL
attribute [local irreducible] FOp POp hL xH
variable {kf : Nat → Nat}
/-- What the merging of two stretches is. -/
def SymOk (g : FuncId) (kf : Nat → Nat) (f : Nat) : Prop := ∀ (L : List Nat) (a m b : Nat), a < m → m < b → b ≤ L.length → L.length ≤ 1024 → All10 L → b - a ≤ f → Srt kf a m L → Srt kf m b L →
    AC Try.prog 131 [.own 0, .val (.int .i64 (a : Nat)), .val (.int .i64 (m : Nat)), .val (.int .i64 (b : Nat)), .val (.func (.func g) #[] #[])] [.row 3 1 (intc (nl L))] (.tup []) [.row 3 1 (intc (nl (symF kf f a m b L)))]
theorem em_or {C X Y : Prop} (h : C → X) (g : ¬ C → Y) : (C ∧ X) ∨ (¬ C ∧ Y) := by
  by_cases c : C
  · exact .inl ⟨c, h c⟩
  · exact .inr ⟨c, g c⟩
set_option maxRecDepth 20000 in
set_option maxHeartbeats 4000000 in
theorem symC_ac {g : FuncId} (hg : CmpK g kf) {f : Nat} (ih : SymOk g kf f) (L : List Nat) (a m b : Nat) (h1 : a < m) (h2 : m < b) (hb : b ≤ L.length) (hl : L.length ≤ 1024) (hA : All10 L) (hf : b - a ≤ f + 1) (hs : Srt kf a m L) (ht : Srt kf m b L) (e1 : ¬ m - a = 1) (e2 : ¬ b - m = 1) :
    AC Try.prog 131 [.own 0, .val (.int .i64 (a : Nat)), .val (.int .i64 (m : Nat)), .val (.int .i64 (b : Nat)), .val (.func (.func g) #[] #[])] [.row 3 1 (intc (nl L))] (.tup []) [.row 3 1 (intc (nl (symF kf (f + 1) a m b L)))] := by
  obtain ⟨k1, k2, k3, k4, k5, k6, k7⟩ := stM_ok (kf := kf) (L := L) h1 h2
  have q3 := st_iff h1 h2 hs ht
  obtain ⟨r1, r2, r3, r4, r5, _⟩ := rot_ok h1 h2 hb hs ht
  have hsym : symF kf (f + 1) a m b L = (let s := stM kf a m b L
      let mid := (a + b) / 2
      let e := mid + m - s
      let L1 := ro1 s m e L
      let L2 := if a < s ∧ s < mid then symF kf f a s mid L1 else L1
      if mid < e ∧ e < b then symF kf f mid e b L2 else L2) := by
    rw [symF, if_neg e1, if_neg e2]
  rw [hsym]
  clear hsym
  dsimp only at *
  generalize stM kf a m b L = s at *
  have w1 : (s < m ∧ m < (a + b) / 2 + m - s) → AC Try.prog 156 [.own 0, .val (.int .i64 (s : Nat)), .val (.int .i64 (m : Nat)), .val (.int .i64 ((a + b) / 2 + m - s : Nat)), .val (.func (.func g) #[] #[])] [.row 3 1 (intc (nl L))] (.tup []) [.row 3 1 (intc (nl (ro1 s m ((a + b) / 2 + m - s) L)))] := fun c => by
    have := rotate_ac (.func (.func g) #[] #[]) L s m ((a + b) / 2 + m - s) c.1 c.2 (by omega) hl
    unfold ro1
    rw [if_pos c]
    exact this
  have v1 : ¬ (s < m ∧ m < (a + b) / 2 + m - s) → ro1 s m ((a + b) / 2 + m - s) L = L := fun c => by
    unfold ro1
    rw [if_neg c]
  have u1 := em_or w1 (fun c => (v1 c).symm)
  clear w1 v1
  have hA1 := hA.sm r1
  have hl1 := r1.len
  have hd : 2 * ((a + b) / 2) ≤ a + b ∧ a + b < 2 * ((a + b) / 2) + 2 := ⟨by omega, by omega⟩
  generalize hL1 : ro1 s m ((a + b) / 2 + m - s) L = L1 at *
  have r6 : Sm a ((a + b) / 2) L1 (if a < s ∧ s < (a + b) / 2 then symF kf f a s ((a + b) / 2) L1 else L1) := by
    split
    · rename_i c
      exact (symF_ok f c.1 c.2 (by omega) (by omega) r2 r3).1
    · exact Sm.refl _ _ _
  have r7 := r4.out r6 (.inr (Nat.le_refl _))
  have r8 := r5.out r6 (.inr (by omega))
  have w2 : (a < s ∧ s < (a + b) / 2) → AC Try.prog 131 [.own 0, .val (.int .i64 (a : Nat)), .val (.int .i64 (s : Nat)), .val (.int .i64 ((a + b) / 2 : Nat)), .val (.func (.func g) #[] #[])] [.row 3 1 (intc (nl L1))] (.tup []) [.row 3 1 (intc (nl (if a < s ∧ s < (a + b) / 2 then symF kf f a s ((a + b) / 2) L1 else L1)))] := fun c => by
    rw [if_pos c]
    exact ih L1 a s ((a + b) / 2) c.1 c.2 (by omega) (by omega) hA1 (by omega) r2 r3
  have v2 : ¬ (a < s ∧ s < (a + b) / 2) → (if a < s ∧ s < (a + b) / 2 then symF kf f a s ((a + b) / 2) L1 else L1) = L1 := fun c => if_neg c
  have u2 := em_or w2 (fun c => (v2 c).symm)
  clear w2 v2
  have hA2 := hA1.sm r6
  have hl2 := r6.len
  generalize hL2 : (if a < s ∧ s < (a + b) / 2 then symF kf f a s ((a + b) / 2) L1 else L1) = L2 at *
  have w3 : ((a + b) / 2 < (a + b) / 2 + m - s ∧ (a + b) / 2 + m - s < b) → AC Try.prog 131 [.own 0, .val (.int .i64 ((a + b) / 2 : Nat)), .val (.int .i64 ((a + b) / 2 + m - s : Nat)), .val (.int .i64 (b : Nat)), .val (.func (.func g) #[] #[])] [.row 3 1 (intc (nl L2))] (.tup []) [.row 3 1 (intc (nl (if (a + b) / 2 < (a + b) / 2 + m - s ∧ (a + b) / 2 + m - s < b then symF kf f ((a + b) / 2) ((a + b) / 2 + m - s) b L2 else L2)))] := fun c => by
    rw [if_pos c]
    exact ih L2 ((a + b) / 2) ((a + b) / 2 + m - s) b c.1 c.2 (by omega) (by omega) hA2 (by omega) r7 r8
  have v3 : ¬ ((a + b) / 2 < (a + b) / 2 + m - s ∧ (a + b) / 2 + m - s < b) → (if (a + b) / 2 < (a + b) / 2 + m - s ∧ (a + b) / 2 + m - s < b then symF kf f ((a + b) / 2) ((a + b) / 2 + m - s) b L2 else L2) = L2 := fun c => if_neg c
  have u3 := em_or w3 (fun c => (v3 c).symm)
  clear w3 v3
  generalize (if (a + b) / 2 < (a + b) / 2 + m - s ∧ (a + b) / 2 + m - s < b then symF kf f ((a + b) / 2) ((a + b) / 2 + m - s) b L2 else L2) = L3 at *
  have ee : (((a + b) / 2 + m - s : Nat) : Int) = (((a + b) / 2 : Nat) : Int) + (m : Int) - (s : Int) := by omega
  rw [ee] at u1 u3
  have hlo : (a + b) / 2 + m ≤ (if (a + b) / 2 < m then (a + b) / 2 + m - b else a) + b := by split <;> omega
  have hhi : (if (a + b) / 2 < m then (a + b) / 2 else m) ≤ (a + b) / 2 := by split <;> omega
  have hloA : (a + b) / 2 < m → (if (a + b) / 2 < m then (a + b) / 2 + m - b else a) = (a + b) / 2 + m - b := fun c => if_pos c
  have hhiA : (a + b) / 2 < m → (if (a + b) / 2 < m then (a + b) / 2 else m) = (a + b) / 2 := fun c => if_pos c
  have hloB : ¬ (a + b) / 2 < m → (if (a + b) / 2 < m then (a + b) / 2 + m - b else a) = a := fun c => if_neg c
  have hhiB : ¬ (a + b) / 2 < m → (if (a + b) / 2 < m then (a + b) / 2 else m) = m := fun c => if_neg c
  generalize (if (a + b) / 2 < m then (a + b) / 2 + m - b else a) = lo at *
  generalize (if (a + b) / 2 < m then (a + b) / 2 else m) = hi at *
  clear hL1 hL2 r1 r2 r3 r4 r5 r6 r7 r8 hA1 hA2 ih
  refine AC.mk (n := 220) (fn := Try.f131) Try.func131 (by kernel_rfl) rfl rfl rfl rfl (fun cx => ?_); dsimp only [argv, Nat.reduceAdd]
  (repeat' (first | refine a_seq ?_ | refine a_block ?_ | refine a_skip ?_ | refine a_ret ?_ | refine a_exit ?_ | refine a_region ?_ | refine l_nil ?_ | (apply w_q; (focus (first | exact Q_move (by conv => lhs; whnf) | exact Q_assign (by conv => lhs; whnf) | exact Q_gtr rfl rfl | exact Q_eql rfl rfl | exact Q_eqlB rfl rfl KBo.h | exact Q_add rfl rfl (by omega) | exact Q_shrN rfl rfl (by omega) | exact Q_sub rfl rfl (by omega) | exact Q_eqlP rfl rfl inferInstance)); (focus exact rfl)) | (refine a_cond rfl ?_ ?_ <;> (intro h; (try (have hp := of_decide_eq_true h)); (try (have hp := of_decide_eq_false h)); (try contradiction); (try (exfalso; omega)))) | (((first | apply w_q | apply w_qq); (focus exact Q_conv (n := ((a + b : Nat) : Int)) rfl Try.underlying3 Try.underlying110 (IntWalk.u64_in _ (by omega))); (focus exact rfl))) | (((first | apply w_q | apply w_qq); (focus exact Q_halfU rfl rfl); (focus exact rfl))) | (((first | apply w_q | apply w_qq); (focus exact Q_conv (n := (((a + b) / 2 : Nat) : Int)) rfl Try.underlying110 Try.underlying3 (IntWalk.i64_in _ (by omega))); (focus exact rfl))))); (try all_goals (try show retA _ _ _ _ _ _ _))
  all_goals first
    | (exfalso; omega)
    | skip
  all_goals
    refine w_loop (X := (Nat × Nat)) [0, 1, 2, 3, 4, 18, 19, 22] (by simp only [keepv, getv_cons, Nat.reduceEqDiff, ↓reduceIte]; exact rfl) (fun z => [(20, .val (.int .i64 (z.1 : Nat))), (21, .val (.int .i64 (z.2 : Nat)))]) (fun _ => [.row 3 1 (intc (nl L))]) (fun z => lo ≤ z.1 ∧ z.1 ≤ s ∧ s ≤ z.2 ∧ z.2 ≤ hi) (fun z => z.2 - z.1) ((lo, hi)) ([0]) ?_ ?_ rfl ?_ <;> (try dsimp only [List.cons_append, List.nil_append])
    · exact ⟨Nat.le_refl _, k1, k2, Nat.le_refl _⟩
    · (refine St.le_mk rfl (VwOs.mk (by decide) ?_) ?_ <;> (repeat' (first | exact trivial | exact vwR rfl | exact Vw.val _ | exact Vw.ro _ | exact Vw.any _ | exact Vw.own _ _ rfl | exact Vw.ptr _ _ _ rfl | exact Vw.rpt _ _ | exact Vw.valro _ | exact Vw.nilro _ | exact Vw.rowro _ _ _ _ rfl (by decide) | (refine Vw.int' ?_; first | rfl | omega | (simp; done)) | (refine Vw.bool' ?_; first | rfl | (simp; done)) | refine Vw.agg' ?_ | refine Vw.tup' ?_ | refine Vw.clo' ?_ | exact VwO.row _ _ _ | refine VwO.box' ?_ | exact VwO.gone _ | exact VwO.mp _ | exact VwO.mat _ _ _ | refine ⟨⟨_, rfl, ?_⟩, ?_⟩ | refine ⟨?_, ?_⟩ )))
    rintro ⟨i, j⟩ ⟨hi1, hi2, hj1, hj2⟩
    dsimp only at hi1 hi2 hj1 hj2 ⊢
    by_cases hij : i < j
    · have kC := hg (L.getD ((a + b) / 2 + m - 1 - (i + j) / 2) 0) (L.getD ((i + j) / 2) 0) (hA.get _) (hA.get _)
      have kL := cmpN_lt (kf (L.getD ((a + b) / 2 + m - 1 - (i + j) / 2) 0)) (kf (L.getD ((i + j) / 2) 0))
      have q4 := q3 ((i + j) / 2) (by omega) (by omega)
      (repeat' (first | refine a_seq ?_ | refine a_block ?_ | refine a_skip ?_ | refine a_ret ?_ | refine a_exit ?_ | refine a_region ?_ | refine l_nil ?_ | (apply w_q; (focus (first | exact Q_move (by conv => lhs; whnf) | exact Q_assign (by conv => lhs; whnf) | exact Q_lss rfl rfl | exact Q_add rfl rfl (by omega) | exact Q_shrN rfl rfl (by omega))); (focus exact rfl)) | (refine a_cond rfl ?_ ?_ <;> (intro h; (try (have hp := of_decide_eq_true h)); (try (have hp := of_decide_eq_false h)); (try contradiction); (try (exfalso; omega)))) | (((first | apply w_q | apply w_qq); (focus exact Q_conv (n := ((i + j : Nat) : Int)) rfl Try.underlying3 Try.underlying110 (IntWalk.u64_in _ (by omega))); (focus exact rfl))) | (((first | apply w_q | apply w_qq); (focus exact Q_halfU rfl rfl); (focus exact rfl))) | (((first | apply w_q | apply w_qq); (focus exact Q_conv (n := (((i + j) / 2 : Nat) : Int)) rfl Try.underlying110 Try.underlying3 (IntWalk.i64_in _ (by omega))); (focus exact rfl))))); (try all_goals (try show retA _ _ _ _ _ _ _))
      all_goals first
        | (exfalso; omega)
        | skip
      
      (repeat' (first | refine a_draw (id := 35) (by kernel_rfl) (by kernel_rfl) ?_ | (first | refine a_seq ?_ | refine a_block ?_ | refine a_skip ?_ | refine a_ret ?_ | refine a_exit ?_ | refine a_region ?_ | refine l_nil ?_ | refine q_nil ?_ | ((first | apply w_q | apply w_qq); (focus (first | exact Q_move (by conv => lhs; whnf) | exact Q_load_ptr rfl rfl rfl KSc.h | exact Q_load_all rfl rfl KAg.h | exact Q_lss rfl rfl | exact Q_sub rfl rfl (by omega) | exact Q_ix_nats rfl rfl rfl KSl.h (by omega) | exact Q_ix_ints rfl rfl rfl KSl.h (by omega) | exact Q_ix_ownN rfl rfl rfl rfl KSl.h (by omega) | exact Q_ix_own rfl rfl rfl rfl KSl.h (by omega) | exact Q_ix_rows rfl rfl rfl KSl.h (by omega) | exact Q_ix_pairsN rfl rfl rfl KSl.h (by omega) | exact Q_ix_pairs rfl rfl rfl KSl.h (by omega) | exact Q_ix_ords rfl rfl rfl KSl.h (by omega) | exact Q_ix_ownb rfl rfl rfl rfl KSl.h (by omega) | exact Q_ix_arr rfl rfl rfl KAr.h (by first | decide | omega) | exact Q_ix_arp rfl rfl rfl KAr.h (by first | decide | omega) | exact Q_ld_rpa rfl KAg.h rfl rfl (by first | (dsimp only [List.drop_zero, List.drop_succ_cons, List.take_succ_cons, List.take_zero, List.map, ofD]; done) | exact rfl) | exact Q_ld_rv rfl rfl KSc.h | exact Q_ld_rs rfl rfl KSc.h | exact Q_ld_nats rfl (by omega) KSc.h | exact Q_ld_ints rfl (by omega) KSc.h | exact Q_ld_ownN rfl rfl (by omega) KSc.h | exact Q_ld_own rfl rfl (by omega) KSc.h | exact Q_ld_rows rfl (by omega) KSc.h | exact Q_ld_pair1N rfl (by omega) KSc.h | exact Q_ld_pair2N rfl (by omega) KSc.h | exact Q_ld_pair1 rfl (by omega) KSc.h | exact Q_ld_pair2 rfl (by omega) KSc.h | exact Q_ld_pairN rfl (by omega) KAg.h | exact Q_ld_pair rfl (by omega) KAg.h | exact Q_ld_ord rfl (by omega) KAg.h | exact Q_ld_ownb rfl rfl (by omega) KSc.h | exact Q_not rfl)); (focus exact rfl)) | (refine a_cond rfl ?_ ?_ <;> (intro h; (try (have hp := of_decide_eq_true h)); (try (have hp := of_decide_eq_false h)); (try contradiction); (try (exfalso; omega)))) | (((first | apply w_q | apply w_qq); (focus (refine Q_call (by exact callee_of (isFn_fun _) rfl) (kC) ?_; ((repeat' (first | exact trivial | exact vwR rfl | exact vwRL rfl | exact Vw.val _ | exact Vw.ro _ | exact Vw.any _ | exact Vw.valro _ | exact Vw.own _ _ rfl | exact Vw.ptr _ _ _ rfl | exact Vw.rpt _ _ | exact Vw.nilro _ | exact Vw.rowro _ _ _ _ rfl (by decide) | exact Vw.rowro2 rfl (by decide) (by with_unfolding_all exact rfl) | refine Vw.agg' ?_ | refine Vw.tup' ?_ | refine Vw.clo' ?_ | refine Vw.boxrpt' rfl (by decide) ?_ | exact Nat.le_of_ble_eq_true rfl | refine ⟨?_, ?_⟩ )); done))); (focus exact rfl))) | (((first | apply w_q | apply w_qq); (focus exact Q_ix_ownN (o := (a + b) / 2 + m - 1 - (i + j) / 2) rfl rfl rfl (by omega) KSl.h (by omega)); (focus exact rfl))))))
      
      all_goals first
        | (exfalso; omega)
        | skip
      (repeat' (first | refine a_seq ?_ | refine a_block ?_ | refine a_skip ?_ | refine a_ret ?_ | refine a_exit ?_ | refine a_region ?_ | refine l_nil ?_ | (apply w_q; (focus (first | exact Q_move (by conv => lhs; whnf) | exact Q_assign (by conv => lhs; whnf) | exact Q_add rfl rfl (by omega))); (focus exact rfl)) | (refine a_cond rfl ?_ ?_ <;> (intro h; (try (have hp := of_decide_eq_true h)); (try (have hp := of_decide_eq_false h)); (try contradiction); (try (exfalso; omega)))))); (try all_goals (try show retA _ _ _ _ _ _ _))
      all_goals (try simp only [Bool.not_eq_true', Bool.not_eq_false', decide_eq_true_eq, decide_eq_false_iff_not] at h)
      all_goals first
        | (exfalso; omega)
        | (try dsimp only [thenA, blockA]
           refine ⟨((i + j) / 2 + 1, j), [0], ?_, ?_, ?_, rfl⟩ <;> (try dsimp only)
           · exact ⟨by (try dsimp only); omega, by (try dsimp only); omega, by (try dsimp only); omega, by (try dsimp only); omega⟩
           · (try dsimp only); omega
           · (refine St.le_mk rfl (VwOs.mk (by decide) ?_) ?_ <;> (repeat' (first | exact trivial | exact vwR rfl | exact Vw.val _ | exact Vw.ro _ | exact Vw.any _ | exact Vw.own _ _ rfl | exact Vw.ptr _ _ _ rfl | exact Vw.rpt _ _ | exact Vw.valro _ | exact Vw.nilro _ | exact Vw.rowro _ _ _ _ rfl (by decide) | (refine Vw.int' ?_; first | rfl | omega | (simp; done)) | (refine Vw.bool' ?_; first | rfl | (simp; done)) | refine Vw.agg' ?_ | refine Vw.tup' ?_ | refine Vw.clo' ?_ | exact VwO.row _ _ _ | refine VwO.box' ?_ | exact VwO.gone _ | exact VwO.mp _ | exact VwO.mat _ _ _ | refine ⟨⟨_, rfl, ?_⟩, ?_⟩ | refine ⟨?_, ?_⟩ ))))
        | (try dsimp only [thenA, blockA]
           refine ⟨(i, (i + j) / 2), [0], ?_, ?_, ?_, rfl⟩ <;> (try dsimp only)
           · exact ⟨by (try dsimp only); omega, by (try dsimp only); omega, by (try dsimp only); omega, by (try dsimp only); omega⟩
           · (try dsimp only); omega
           · (refine St.le_mk rfl (VwOs.mk (by decide) ?_) ?_ <;> (repeat' (first | exact trivial | exact vwR rfl | exact Vw.val _ | exact Vw.ro _ | exact Vw.any _ | exact Vw.own _ _ rfl | exact Vw.ptr _ _ _ rfl | exact Vw.rpt _ _ | exact Vw.valro _ | exact Vw.nilro _ | exact Vw.rowro _ _ _ _ rfl (by decide) | (refine Vw.int' ?_; first | rfl | omega | (simp; done)) | (refine Vw.bool' ?_; first | rfl | (simp; done)) | refine Vw.agg' ?_ | refine Vw.tup' ?_ | refine Vw.clo' ?_ | exact VwO.row _ _ _ | refine VwO.box' ?_ | exact VwO.gone _ | exact VwO.mp _ | exact VwO.mat _ _ _ | refine ⟨⟨_, rfl, ?_⟩, ?_⟩ | refine ⟨?_, ?_⟩ ))))
        | (all_goals trace_state); fail
    · obtain rfl : i = s := by omega
      obtain rfl : i = j := by omega
      clear q3
      rcases u1 with ⟨c1, w1⟩ | ⟨c1, rfl⟩ <;> rcases u2 with ⟨c2, w2⟩ | ⟨c2, rfl⟩ <;> rcases u3 with ⟨c3, w3⟩ | ⟨c3, rfl⟩
      all_goals
        (repeat' (first | refine a_seq ?_ | refine a_block ?_ | refine a_skip ?_ | refine a_ret ?_ | refine a_exit ?_ | refine a_region ?_ | refine l_nil ?_ | (apply w_q; (focus (first | exact Q_move (by conv => lhs; whnf) | exact Q_assign (by conv => lhs; whnf) | exact Q_lss rfl rfl | exact Q_sub rfl rfl (by omega) | exact Q_pick_t rfl (by assumption) (by conv => lhs; whnf) | exact Q_pick_f rfl (by assumption) (by conv => lhs; whnf) | exact Q_pick_t rfl rfl (by conv => lhs; whnf) | exact Q_pick_f rfl rfl (by conv => lhs; whnf))); (focus exact rfl)) | (refine a_cond rfl ?_ ?_ <;> (intro h; (try (have hp := of_decide_eq_true h)); (try (have hp := of_decide_eq_false h)); (try contradiction); (try (exfalso; omega)))) | refine w_guard_u rfl rfl rfl ?_ | refine w_guard_y rfl rfl rfl (by first | assumption | rfl) ?_ | refine w_guard_n rfl rfl rfl (by first | assumption | rfl) ?_ | (refine w_guard rfl rfl rfl ?_ ?_ <;> (intro h; (try (have hp := of_decide_eq_true h)); (try (have hp := of_decide_eq_false h)); (try contradiction); (try (exfalso; omega)))) | ((refine w_callW (res := .tup []) (news := [.row 3 1 (intc (nl L1))]) [0] (.inl ⟨rfl, rfl⟩) (w1) ?_ ?_ rfl rfl (by decide) ?_ rfl rfl ?_ (by first | (dsimp only [List.map, putL, AO.rn, AV.rn, AV.rnl, rn_ints, rn_rows, rn_pairs, List.map_cons, List.map_nil, List.set_cons_zero, List.set_cons_succ, List.getD_cons_zero, List.getD_cons_succ]; done) | exact rfl) (by first | (dsimp only [List.map, putL, AO.rn, AV.rn, AV.rnl, rn_ints, rn_rows, rn_pairs, List.map_cons, List.map_nil, List.set_cons_zero, List.set_cons_succ, List.getD_cons_zero, List.getD_cons_succ]; done) | exact rfl) rfl ?_; rotate_left 0; (focus exact rfl); (focus exact rfl); (focus exact rfl); (focus exact rfl); rotate_left 1; all_goals (try (skip)))) | ((refine w_callW (res := .tup []) (news := [.row 3 1 (intc (nl L2))]) [0] (.inl ⟨rfl, rfl⟩) (w2) ?_ ?_ rfl rfl (by decide) ?_ rfl rfl ?_ (by first | (dsimp only [List.map, putL, AO.rn, AV.rn, AV.rnl, rn_ints, rn_rows, rn_pairs, List.map_cons, List.map_nil, List.set_cons_zero, List.set_cons_succ, List.getD_cons_zero, List.getD_cons_succ]; done) | exact rfl) (by first | (dsimp only [List.map, putL, AO.rn, AV.rn, AV.rnl, rn_ints, rn_rows, rn_pairs, List.map_cons, List.map_nil, List.set_cons_zero, List.set_cons_succ, List.getD_cons_zero, List.getD_cons_succ]; done) | exact rfl) rfl ?_; rotate_left 0; (focus exact rfl); (focus exact rfl); (focus exact rfl); (focus exact rfl); rotate_left 1; all_goals (try (skip)))) | ((refine w_callW (res := .tup []) (news := [.row 3 1 (intc (nl L3))]) [0] (.inl ⟨rfl, rfl⟩) (w3) ?_ ?_ rfl rfl (by decide) ?_ rfl rfl ?_ (by first | (dsimp only [List.map, putL, AO.rn, AV.rn, AV.rnl, rn_ints, rn_rows, rn_pairs, List.map_cons, List.map_nil, List.set_cons_zero, List.set_cons_succ, List.getD_cons_zero, List.getD_cons_succ]; done) | exact rfl) (by first | (dsimp only [List.map, putL, AO.rn, AV.rn, AV.rnl, rn_ints, rn_rows, rn_pairs, List.map_cons, List.map_nil, List.set_cons_zero, List.set_cons_succ, List.getD_cons_zero, List.getD_cons_succ]; done) | exact rfl) rfl ?_; rotate_left 0; (focus exact rfl); (focus exact rfl); (focus exact rfl); (focus exact rfl); rotate_left 1; all_goals (try (skip)))))); (try all_goals (try show retA _ _ _ _ _ _ _))
        all_goals first
          | (exfalso; omega)
          | (try dsimp only [thenA, blockA]
             refine ⟨[], [0], trivial, VwOs.mk (by decide) ⟨⟨_, rfl, .row _ _ _⟩, trivial⟩, ?_, rfl⟩
             exact Vw.tup' trivial)
          | (all_goals trace_state); fail
theorem symMerge_ac {g : FuncId} (hg : CmpK g kf) : ∀ f, SymOk g kf f
  | 0 => fun L a m b h1 h2 _ _ _ hf _ _ => by omega
  | f + 1 => fun L a m b h1 h2 hb hl hA hf hs ht => by
    by_cases e1 : m - a = 1
    · have := symA_ac hg L a m b h1 h2 hb hl hA ht e1
      rw [symF, if_pos e1]
      exact this
    · by_cases e2 : b - m = 1
      · have := symB_ac hg L a m b h1 h2 hb hl hA hs e1 e2
        rw [symF, if_neg e1, if_pos e2]
        exact this
      · exact symC_ac hg (symMerge_ac hg f) L a m b h1 h2 hb hl hA hf hs ht e1 e2
end Go.Proofs.Ytdbngpkbamhbeaa
