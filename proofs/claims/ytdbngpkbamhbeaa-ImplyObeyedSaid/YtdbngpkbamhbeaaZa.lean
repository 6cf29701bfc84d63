import Derived.Test.YtdbngpkbamhbeaaYz
set_option linter.unusedSimpArgs false
set_option linter.unusedVariables false
set_option linter.unusedSectionVars false
set_option maxRecDepth 20000
namespace Go.Proofs.Ytdbngpkbamhbeaa
attribute [local irreducible] QOp aL aC qL
attribute [local irreducible] FOp POp hL xH
variable {kf : Nat → Nat}
theorem mgK_pre {bs n : Nat} {L : List Nat} (hbs : 0 < bs) (hn : n ≤ L.length) (hB : Bl kf bs n L) {k : Nat} (hk : 2 * bs * k ≤ n) :
    Sm 0 (2 * bs * k) L (mgK kf bs n L k) ∧ Srt kf (2 * bs * k) (min (2 * bs * k + bs) n) (mgK kf bs n L k) ∧ Srt kf (2 * bs * k + bs) (min (2 * bs * k + 2 * bs) n) (mgK kf bs n L k) := by
  obtain ⟨h1, _⟩ := mgK_ok hbs hn hB k hk
  have b1 := hB (2 * k)
  have b2 := hB (2 * k + 1)
  have e1 : bs * (2 * k) = 2 * bs * k := by rw [Nat.mul_left_comm, Nat.mul_assoc]
  have e2 : bs * (2 * k + 1) = 2 * bs * k + bs := by rw [Nat.mul_succ, e1]
  rw [e1] at b1
  rw [e2, show 2 * bs * k + bs + bs = 2 * bs * k + 2 * bs by omega] at b2
  exact ⟨h1, b1.out h1 (.inr (Nat.le_refl _)), b2.out h1 (.inr (by omega))⟩
set_option maxRecDepth 20000 in
theorem stable_ac {g : FuncId} (hg : CmpK g kf) (L : List Nat) (hl : L.length ≤ 1024) (hA : All10 L) :
    AC Try.prog 114 [.own 0, .val (.int .i64 (L.length : Nat)), .val (.func (.func g) #[] #[])] [.row 3 1 (intc (nl L))] (.tup []) [.row 3 1 (intc (nl (ssT kf L)))] := by
  obtain ⟨t1, t2⟩ := tT_ok L.length
  have hm := fun t => mgA_ok (kf := kf) (n := L.length) (L := L) (Nat.le_refl _) t
  have hss : ssT kf L = mgA kf L.length L (tT L.length) := rfl
  have hb0 : mgA kf L.length L 0 = insS kf (20 * (L.length / 20)) L.length (bkI kf L (L.length / 20)) := rfl
  have hbk := fun k hk => (bkI_ok (kf := kf) (L := L) (Nat.le_refl _) k hk).1
  have hbs : ∀ k, bkI kf L (k + 1) = insS kf (20 * k) (20 * k + 20) (bkI kf L k) := fun _ => rfl
  have hBk0 : bkI kf L 0 = L := rfl
  generalize bkI kf L = BK at *
  rw [hss]
  generalize tT L.length = T at *
  refine AC.mk (n := 63) (fn := Try.f114) Try.func114 (by kernel_rfl) rfl rfl rfl rfl (fun cx => ?_); dsimp only [argv, Nat.reduceAdd]
  (repeat' (first | refine a_seq ?_ | refine a_block ?_ | refine a_skip ?_ | refine a_ret ?_ | refine a_exit ?_ | refine a_region ?_ | refine l_nil ?_ | (apply w_q; (focus (first | exact Q_move (by conv => lhs; whnf) | exact Q_assign (by conv => lhs; whnf))); (focus exact rfl)) | (refine a_cond rfl ?_ ?_ <;> (intro h; (try (have hp := of_decide_eq_true h)); (try (have hp := of_decide_eq_false h)); (try contradiction); (try (exfalso; omega)))))); (try all_goals (try show retA _ _ _ _ _ _ _))
  refine w_loop (X := Nat) [0, 1, 2, 6] (by simp only [keepv, getv_cons, Nat.reduceEqDiff, ↓reduceIte]; exact rfl) (fun k => [(7, .val (.int .i64 (20 * k : Nat))), (8, .val (.int .i64 (20 * k + 20 : Nat)))]) (fun k => [.row 3 1 (intc (nl (BK k)))]) (fun k => 20 * k ≤ L.length) (fun k => L.length - 20 * k) (0) ([0]) ?_ ?_ rfl ?_ <;> (try dsimp only [List.cons_append, List.nil_append])
  · omega
  · rw [hBk0]
    (refine St.le_mk rfl (VwOs.mk (by decide) ?_) ?_ <;> (repeat' (first | exact trivial | exact vwR rfl | exact Vw.val _ | exact Vw.ro _ | exact Vw.any _ | exact Vw.own _ _ rfl | exact Vw.ptr _ _ _ rfl | exact Vw.rpt _ _ | exact Vw.valro _ | exact Vw.nilro _ | exact Vw.rowro _ _ _ _ rfl (by decide) | (refine Vw.int' ?_; first | rfl | omega | (simp; done)) | (refine Vw.bool' ?_; first | rfl | (simp; done)) | refine Vw.agg' ?_ | refine Vw.tup' ?_ | refine Vw.clo' ?_ | exact VwO.row _ _ _ | refine VwO.box' ?_ | exact VwO.gone _ | exact VwO.mp _ | exact VwO.mat _ _ _ | refine ⟨⟨_, rfl, ?_⟩, ?_⟩ | refine ⟨?_, ?_⟩ )))
  intro k hk
  have s1 := hbk k hk
  have s2 := s1.len
  by_cases hkn : 20 * k + 20 ≤ L.length
  · have kI := insertC_ac hg (BK k) (20 * k) (20 * k + 20) (by omega) (by omega) (by omega) (hA.sm s1)
    have hs := hbs k
    rw [← hs] at kI
    (repeat' (first | refine a_seq ?_ | refine a_block ?_ | refine a_skip ?_ | refine a_ret ?_ | refine a_exit ?_ | refine a_region ?_ | refine l_nil ?_ | (apply w_q; (focus (first | exact Q_move (by conv => lhs; whnf) | exact Q_assign (by conv => lhs; whnf) | exact Q_leq rfl rfl | exact Q_add rfl rfl (by omega))); (focus exact rfl)) | (refine a_cond rfl ?_ ?_ <;> (intro h; (try (have hp := of_decide_eq_true h)); (try (have hp := of_decide_eq_false h)); (try contradiction); (try (exfalso; omega)))) | ((refine w_callW (res := .tup []) (news := [.row 3 1 (intc (nl (BK (k + 1))))]) [0] (.inl ⟨rfl, rfl⟩) (kI) ?_ ?_ rfl rfl (by decide) ?_ rfl rfl ?_ (by first | (dsimp only [List.map, putL, AO.rn, AV.rn, AV.rnl, rn_ints, rn_rows, rn_pairs, List.map_cons, List.map_nil, List.set_cons_zero, List.set_cons_succ, List.getD_cons_zero, List.getD_cons_succ]; done) | exact rfl) (by first | (dsimp only [List.map, putL, AO.rn, AV.rn, AV.rnl, rn_ints, rn_rows, rn_pairs, List.map_cons, List.map_nil, List.set_cons_zero, List.set_cons_succ, List.getD_cons_zero, List.getD_cons_succ]; done) | exact rfl) rfl ?_; rotate_left 0; (focus exact rfl); (focus exact rfl); (focus exact rfl); (focus exact rfl); rotate_left 1; all_goals (try (skip)))))); (try all_goals (try show retA _ _ _ _ _ _ _))
    all_goals first
      | (exfalso; omega)
      | (try dsimp only [thenA, blockA]
         refine ⟨k + 1, [0], ?_, ?_, ?_, rfl⟩ <;> (try dsimp only)
         · omega
         · omega
         · (refine St.le_mk rfl (VwOs.mk (by decide) ?_) ?_ <;> (repeat' (first | exact trivial | exact vwR rfl | exact Vw.val _ | exact Vw.ro _ | exact Vw.any _ | exact Vw.own _ _ rfl | exact Vw.ptr _ _ _ rfl | exact Vw.rpt _ _ | exact Vw.valro _ | exact Vw.nilro _ | exact Vw.rowro _ _ _ _ rfl (by decide) | (refine Vw.int' ?_; first | rfl | omega | (simp; done)) | (refine Vw.bool' ?_; first | rfl | (simp; done)) | refine Vw.agg' ?_ | refine Vw.tup' ?_ | refine Vw.clo' ?_ | exact VwO.row _ _ _ | refine VwO.box' ?_ | exact VwO.gone _ | exact VwO.mp _ | exact VwO.mat _ _ _ | refine ⟨⟨_, rfl, ?_⟩, ?_⟩ | refine ⟨?_, ?_⟩ ))))
      | (all_goals trace_state); fail
  · have hK : L.length / 20 = k := by omega
    rw [hK] at hb0
    have kI := insertC_ac hg (BK k) (20 * k) L.length (by omega) (by omega) (by omega) (hA.sm s1)
    rw [← hb0] at kI
    (repeat' (first | refine a_seq ?_ | refine a_block ?_ | refine a_skip ?_ | refine a_ret ?_ | refine a_exit ?_ | refine a_region ?_ | refine l_nil ?_ | (apply w_q; (focus (first | exact Q_move (by conv => lhs; whnf) | exact Q_leq rfl rfl)); (focus exact rfl)) | (refine a_cond rfl ?_ ?_ <;> (intro h; (try (have hp := of_decide_eq_true h)); (try (have hp := of_decide_eq_false h)); (try contradiction); (try (exfalso; omega)))) | ((refine w_callW (res := .tup []) (news := [.row 3 1 (intc (nl (mgA kf L.length L 0)))]) [0] (.inl ⟨rfl, rfl⟩) (kI) ?_ ?_ rfl rfl (by decide) ?_ rfl rfl ?_ (by first | (dsimp only [List.map, putL, AO.rn, AV.rn, AV.rnl, rn_ints, rn_rows, rn_pairs, List.map_cons, List.map_nil, List.set_cons_zero, List.set_cons_succ, List.getD_cons_zero, List.getD_cons_succ]; done) | exact rfl) (by first | (dsimp only [List.map, putL, AO.rn, AV.rn, AV.rnl, rn_ints, rn_rows, rn_pairs, List.map_cons, List.map_nil, List.set_cons_zero, List.set_cons_succ, List.getD_cons_zero, List.getD_cons_succ]; done) | exact rfl) rfl ?_; rotate_left 0; (focus exact rfl); (focus exact rfl); (focus exact rfl); (focus exact rfl); rotate_left 1; all_goals (try (skip)))))); (try all_goals (try show retA _ _ _ _ _ _ _))
    all_goals first
      | (exfalso; omega)
      | skip
    obtain ⟨B, hB⟩ : ∃ B : Nat → Nat, B = fun t => 20 * 2 ^ t := ⟨_, rfl⟩
    have hB0 : B 0 = 20 := by rw [hB]
    have hBp : ∀ t, 0 < B t := fun t => by rw [hB]; exact Nat.mul_pos (by decide) (Nat.pow_pos (by decide))
    have hBs : ∀ t, B (t + 1) = 2 * B t := fun t => by rw [hB]; show 20 * 2 ^ (t + 1) = 2 * (20 * 2 ^ t); rw [Nat.pow_succ]; omega
    have hMs : ∀ t, mgA kf L.length L (t + 1) = mgP kf (B t) L.length (mgA kf L.length L t) := fun t => by rw [hB]; rfl
    have t1 : ∀ t, t < T → B t < L.length := by rw [hB]; exact t1
    have t2 : L.length ≤ B T := by rw [hB]; exact t2
    have hm : ∀ t, Sm 0 L.length L (mgA kf L.length L t) ∧ Bl kf (B t) L.length (mgA kf L.length L t) := by rw [hB]; exact hm
    clear hb0 hbk hbs s1 s2 kI
    generalize mgA kf L.length L = MA at *
    refine w_loop (X := Nat) [0, 1, 2] (by simp only [keepv, getv_cons, Nat.reduceEqDiff, ↓reduceIte]; exact rfl) (fun t => [(6, .val (.int .i64 (B t : Nat)))]) (fun t => [.row 3 1 (intc (nl (MA t)))]) (fun t => t ≤ T) (fun t => T - t) (0) ([0]) ?_ ?_ rfl ?_ <;> (try dsimp only [List.cons_append, List.nil_append])
    · exact Nat.zero_le _
    · rw [hB0]
      (refine St.le_mk rfl (VwOs.mk (by decide) ?_) ?_ <;> (repeat' (first | exact trivial | exact vwR rfl | exact Vw.val _ | exact Vw.ro _ | exact Vw.any _ | exact Vw.own _ _ rfl | exact Vw.ptr _ _ _ rfl | exact Vw.rpt _ _ | exact Vw.valro _ | exact Vw.nilro _ | exact Vw.rowro _ _ _ _ rfl (by decide) | (refine Vw.int' ?_; first | rfl | omega | (simp; done)) | (refine Vw.bool' ?_; first | rfl | (simp; done)) | refine Vw.agg' ?_ | refine Vw.tup' ?_ | refine Vw.clo' ?_ | exact VwO.row _ _ _ | refine VwO.box' ?_ | exact VwO.gone _ | exact VwO.mp _ | exact VwO.mat _ _ _ | refine ⟨⟨_, rfl, ?_⟩, ?_⟩ | refine ⟨?_, ?_⟩ )))
    intro t ht
    by_cases htn : t < T
    · have hbn := t1 t htn
      have hs1 := hBs t
      have hs2 := hMs t
      have hbp := hBp t
      obtain ⟨m1, m2⟩ := hm t
      have m3 := m1.len
      generalize hM2 : MA (t + 1) = M2 at *
      generalize MA t = M at *
      generalize hBB : B (t + 1) = bs2 at *
      generalize B t = bs at *
      obtain ⟨Q, hQ⟩ : ∃ Q : Nat → Nat, Q = fun k => 2 * bs * k := ⟨_, rfl⟩
      have hQ0 : Q 0 = 0 := by rw [hQ]; exact Nat.mul_zero _
      have hQs : ∀ k, Q (k + 1) = Q k + 2 * bs := fun k => by rw [hQ]; exact Nat.mul_succ _ _
      have hpre : ∀ k, Q k ≤ L.length → Sm 0 (Q k) M (mgK kf bs L.length M k) ∧ Srt kf (Q k) (min (Q k + bs) L.length) (mgK kf bs L.length M k) ∧ Srt kf (Q k + bs) (min (Q k + 2 * bs) L.length) (mgK kf bs L.length M k) := fun k hk => by
        rw [hQ] at hk ⊢
        exact mgK_pre hbp (by omega) m2 hk
      have hKs : ∀ k, mgK kf bs L.length M (k + 1) = symF kf L.length (Q k) (Q k + bs) (Q k + 2 * bs) (mgK kf bs L.length M k) := fun k => by rw [hQ]; rfl
      have hdv : ∀ k, Q k ≤ L.length → L.length < Q k + 2 * bs → L.length / (2 * bs) = k := fun k h1 h2 => by
        rw [hQ] at h1 h2
        refine Nat.div_eq_of_lt_le ?_ ?_
        · rw [Nat.mul_comm]; exact h1
        · rw [Nat.mul_comm, Nat.mul_succ]; exact h2
      have hP : M2 = if Q (L.length / (2 * bs)) + bs < L.length then symF kf L.length (Q (L.length / (2 * bs))) (Q (L.length / (2 * bs)) + bs) L.length (mgK kf bs L.length M (L.length / (2 * bs))) else mgK kf bs L.length M (L.length / (2 * bs)) := by rw [hs2, hQ]; rfl
      have hM0 : mgK kf bs L.length M 0 = M := rfl
      clear hs2
      generalize mgK kf bs L.length M = MK at *
      clear hQ
      (repeat' (first | refine a_seq ?_ | refine a_block ?_ | refine a_skip ?_ | refine a_ret ?_ | refine a_exit ?_ | refine a_region ?_ | refine l_nil ?_ | (apply w_q; (focus (first | exact Q_move (by conv => lhs; whnf) | exact Q_assign (by conv => lhs; whnf) | exact Q_lss rfl rfl)); (focus exact rfl)) | (refine a_cond rfl ?_ ?_ <;> (intro h; (try (have hp := of_decide_eq_true h)); (try (have hp := of_decide_eq_false h)); (try contradiction); (try (exfalso; omega)))) | (((first | apply w_q | apply w_qq); (focus exact Q_mul rfl rfl (by omega)); (focus exact rfl))))); (try all_goals (try show retA _ _ _ _ _ _ _))
      all_goals first
        | (exfalso; omega)
        | skip
      refine w_loop (X := Nat) [0, 1, 2, 6] (by simp only [keepv, getv_cons, Nat.reduceEqDiff, ↓reduceIte]; exact rfl) (fun k => [(7, .val (.int .i64 (Q k : Nat))), (8, .val (.int .i64 (Q k + 2 * bs : Nat)))]) (fun k => [.row 3 1 (intc (nl (MK k)))]) (fun k => Q k ≤ L.length) (fun k => L.length - Q k) (0) ([0]) ?_ ?_ rfl ?_ <;> (try dsimp only [List.cons_append, List.nil_append])
      · omega
      · rw [hM0, hQ0]
        (refine St.le_mk rfl (VwOs.mk (by decide) ?_) ?_ <;> (repeat' (first | exact trivial | exact vwR rfl | exact Vw.val _ | exact Vw.ro _ | exact Vw.any _ | exact Vw.own _ _ rfl | exact Vw.ptr _ _ _ rfl | exact Vw.rpt _ _ | exact Vw.valro _ | exact Vw.nilro _ | exact Vw.rowro _ _ _ _ rfl (by decide) | (refine Vw.int' ?_; first | rfl | omega | (simp; done)) | (refine Vw.bool' ?_; first | rfl | (simp; done)) | refine Vw.agg' ?_ | refine Vw.tup' ?_ | refine Vw.clo' ?_ | exact VwO.row _ _ _ | refine VwO.box' ?_ | exact VwO.gone _ | exact VwO.mp _ | exact VwO.mat _ _ _ | refine ⟨⟨_, rfl, ?_⟩, ?_⟩ | refine ⟨?_, ?_⟩ )))
      intro k hk
      obtain ⟨p1, p2, p3⟩ := hpre k hk
      have p4 := p1.len
      have hA2 := (hA.sm m1).sm p1
      have hq := hQs k
      by_cases hkb : Q k + 2 * bs ≤ L.length
      · rw [Nat.min_eq_left (by omega)] at p2 p3
        have kS := symMerge_ac hg L.length (MK k) (Q k) (Q k + bs) (Q k + 2 * bs) (by omega) (by omega) (by omega) (by omega) hA2 (by omega) p2 p3
        rw [← hKs k, show ((Q k + bs : Nat) : Int) = (Q k : Int) + (bs : Int) by omega] at kS
        (repeat' (first | refine a_seq ?_ | refine a_block ?_ | refine a_skip ?_ | refine a_ret ?_ | refine a_exit ?_ | refine a_region ?_ | refine l_nil ?_ | (apply w_q; (focus (first | exact Q_move (by conv => lhs; whnf) | exact Q_assign (by conv => lhs; whnf) | exact Q_leq rfl rfl | exact Q_add rfl rfl (by omega))); (focus exact rfl)) | (refine a_cond rfl ?_ ?_ <;> (intro h; (try (have hp := of_decide_eq_true h)); (try (have hp := of_decide_eq_false h)); (try contradiction); (try (exfalso; omega)))) | (((first | apply w_q | apply w_qq); (focus exact Q_mul rfl rfl (by omega)); (focus exact rfl))) | ((refine w_callW (res := .tup []) (news := [.row 3 1 (intc (nl (MK (k + 1))))]) [0] (.inl ⟨rfl, rfl⟩) (kS) ?_ ?_ rfl rfl (by decide) ?_ rfl rfl ?_ (by first | (dsimp only [List.map, putL, AO.rn, AV.rn, AV.rnl, rn_ints, rn_rows, rn_pairs, List.map_cons, List.map_nil, List.set_cons_zero, List.set_cons_succ, List.getD_cons_zero, List.getD_cons_succ]; done) | exact rfl) (by first | (dsimp only [List.map, putL, AO.rn, AV.rn, AV.rnl, rn_ints, rn_rows, rn_pairs, List.map_cons, List.map_nil, List.set_cons_zero, List.set_cons_succ, List.getD_cons_zero, List.getD_cons_succ]; done) | exact rfl) rfl ?_; rotate_left 0; (focus exact rfl); (focus exact rfl); (focus exact rfl); (focus exact rfl); rotate_left 1; all_goals (try (skip)))))); (try all_goals (try show retA _ _ _ _ _ _ _))
        all_goals first
          | (exfalso; omega)
          | (try dsimp only [thenA, blockA]
             refine ⟨k + 1, [0], ?_, ?_, ?_, rfl⟩ <;> (try dsimp only)
             · omega
             · omega
             · rw [hq]
               (refine St.le_mk rfl (VwOs.mk (by decide) ?_) ?_ <;> (repeat' (first | exact trivial | exact vwR rfl | exact Vw.val _ | exact Vw.ro _ | exact Vw.any _ | exact Vw.own _ _ rfl | exact Vw.ptr _ _ _ rfl | exact Vw.rpt _ _ | exact Vw.valro _ | exact Vw.nilro _ | exact Vw.rowro _ _ _ _ rfl (by decide) | (refine Vw.int' ?_; first | rfl | omega | (simp; done)) | (refine Vw.bool' ?_; first | rfl | (simp; done)) | refine Vw.agg' ?_ | refine Vw.tup' ?_ | refine Vw.clo' ?_ | exact VwO.row _ _ _ | refine VwO.box' ?_ | exact VwO.gone _ | exact VwO.mp _ | exact VwO.mat _ _ _ | refine ⟨⟨_, rfl, ?_⟩, ?_⟩ | refine ⟨?_, ?_⟩ ))))
          | (all_goals trace_state); fail
      · have hK := hdv k hk (by omega)
        rw [hK] at hP
        rw [Nat.min_eq_right (show L.length ≤ Q k + 2 * bs by omega)] at p3
        by_cases hc : Q k + bs < L.length
        · rw [if_pos hc] at hP
          rw [Nat.min_eq_left (by omega)] at p2
          have kS := symMerge_ac hg L.length (MK k) (Q k) (Q k + bs) L.length (by omega) hc (by omega) (by omega) hA2 (by omega) p2 p3
          rw [← hP, show ((Q k + bs : Nat) : Int) = (Q k : Int) + (bs : Int) by omega] at kS
          (repeat' (first | refine a_seq ?_ | refine a_block ?_ | refine a_skip ?_ | refine a_ret ?_ | refine a_exit ?_ | refine a_region ?_ | refine l_nil ?_ | (apply w_q; (focus (first | exact Q_move (by conv => lhs; whnf) | exact Q_assign (by conv => lhs; whnf) | exact Q_lss rfl rfl | exact Q_leq rfl rfl | exact Q_add rfl rfl (by omega))); (focus exact rfl)) | (refine a_cond rfl ?_ ?_ <;> (intro h; (try (have hp := of_decide_eq_true h)); (try (have hp := of_decide_eq_false h)); (try contradiction); (try (exfalso; omega)))) | (((first | apply w_q | apply w_qq); (focus exact Q_mul rfl rfl (by omega)); (focus exact rfl))) | ((refine w_callW (res := .tup []) (news := [.row 3 1 (intc (nl M2))]) [0] (.inl ⟨rfl, rfl⟩) (kS) ?_ ?_ rfl rfl (by decide) ?_ rfl rfl ?_ (by first | (dsimp only [List.map, putL, AO.rn, AV.rn, AV.rnl, rn_ints, rn_rows, rn_pairs, List.map_cons, List.map_nil, List.set_cons_zero, List.set_cons_succ, List.getD_cons_zero, List.getD_cons_succ]; done) | exact rfl) (by first | (dsimp only [List.map, putL, AO.rn, AV.rn, AV.rnl, rn_ints, rn_rows, rn_pairs, List.map_cons, List.map_nil, List.set_cons_zero, List.set_cons_succ, List.getD_cons_zero, List.getD_cons_succ]; done) | exact rfl) rfl ?_; rotate_left 0; (focus exact rfl); (focus exact rfl); (focus exact rfl); (focus exact rfl); rotate_left 1; all_goals (try (skip)))))); (try all_goals (try show retA _ _ _ _ _ _ _))
          all_goals first
            | (exfalso; omega)
            | (try dsimp only [thenA, blockA]
               refine ⟨t + 1, [0], ?_, ?_, ?_, rfl⟩ <;> (try dsimp only)
               · omega
               · omega
               · rw [hM2, hBB, hs1]
                 (refine St.le_mk rfl (VwOs.mk (by decide) ?_) ?_ <;> (repeat' (first | exact trivial | exact vwR rfl | exact Vw.val _ | exact Vw.ro _ | exact Vw.any _ | exact Vw.own _ _ rfl | exact Vw.ptr _ _ _ rfl | exact Vw.rpt _ _ | exact Vw.valro _ | exact Vw.nilro _ | exact Vw.rowro _ _ _ _ rfl (by decide) | (refine Vw.int' ?_; first | rfl | omega | (simp; done)) | (refine Vw.bool' ?_; first | rfl | (simp; done)) | refine Vw.agg' ?_ | refine Vw.tup' ?_ | refine Vw.clo' ?_ | exact VwO.row _ _ _ | refine VwO.box' ?_ | exact VwO.gone _ | exact VwO.mp _ | exact VwO.mat _ _ _ | refine ⟨⟨_, rfl, ?_⟩, ?_⟩ | refine ⟨?_, ?_⟩ ))))
            | (all_goals trace_state); fail
        · rw [if_neg hc] at hP
          (repeat' (first | refine a_seq ?_ | refine a_block ?_ | refine a_skip ?_ | refine a_ret ?_ | refine a_exit ?_ | refine a_region ?_ | refine l_nil ?_ | (apply w_q; (focus (first | exact Q_move (by conv => lhs; whnf) | exact Q_assign (by conv => lhs; whnf) | exact Q_lss rfl rfl | exact Q_leq rfl rfl | exact Q_add rfl rfl (by omega))); (focus exact rfl)) | (refine a_cond rfl ?_ ?_ <;> (intro h; (try (have hp := of_decide_eq_true h)); (try (have hp := of_decide_eq_false h)); (try contradiction); (try (exfalso; omega)))) | (((first | apply w_q | apply w_qq); (focus exact Q_mul rfl rfl (by omega)); (focus exact rfl))))); (try all_goals (try show retA _ _ _ _ _ _ _))
          all_goals first
            | (exfalso; omega)
            | (try dsimp only [thenA, blockA]
               refine ⟨t + 1, [0], ?_, ?_, ?_, rfl⟩ <;> (try dsimp only)
               · omega
               · omega
               · rw [hM2, hBB, hs1, hP]
                 (refine St.le_mk rfl (VwOs.mk (by decide) ?_) ?_ <;> (repeat' (first | exact trivial | exact vwR rfl | exact Vw.val _ | exact Vw.ro _ | exact Vw.any _ | exact Vw.own _ _ rfl | exact Vw.ptr _ _ _ rfl | exact Vw.rpt _ _ | exact Vw.valro _ | exact Vw.nilro _ | exact Vw.rowro _ _ _ _ rfl (by decide) | (refine Vw.int' ?_; first | rfl | omega | (simp; done)) | (refine Vw.bool' ?_; first | rfl | (simp; done)) | refine Vw.agg' ?_ | refine Vw.tup' ?_ | refine Vw.clo' ?_ | exact VwO.row _ _ _ | refine VwO.box' ?_ | exact VwO.gone _ | exact VwO.mp _ | exact VwO.mat _ _ _ | refine ⟨⟨_, rfl, ?_⟩, ?_⟩ | refine ⟨?_, ?_⟩ ))))
            | (all_goals trace_state); fail
    · obtain rfl : t = T := by omega
      (repeat' (first | refine a_seq ?_ | refine a_block ?_ | refine a_skip ?_ | refine a_ret ?_ | refine a_exit ?_ | refine a_region ?_ | refine l_nil ?_ | (apply w_q; (focus (first | exact Q_move (by conv => lhs; whnf) | exact Q_lss rfl rfl)); (focus exact rfl)) | (refine a_cond rfl ?_ ?_ <;> (intro h; (try (have hp := of_decide_eq_true h)); (try (have hp := of_decide_eq_false h)); (try contradiction); (try (exfalso; omega)))))); (try all_goals (try show retA _ _ _ _ _ _ _))
      all_goals first
        | (exfalso; omega)
        | (try dsimp only [thenA, blockA]
           refine ⟨[], [0], trivial, VwOs.mk (by decide) ⟨⟨_, rfl, .row _ _ _⟩, trivial⟩, ?_, rfl⟩
           exact Vw.tup' trivial)
        | (all_goals trace_state); fail
theorem sortStable_ac {g : FuncId} (hg : CmpK g kf) (L : List Nat) (hl : L.length ≤ 1024) (hA : All10 L) :
    AC Try.prog 93 [.own 0, .val (.func (.func g) #[] #[])] [.row 3 1 (intc (nl L))] (.tup []) [.row 3 1 (intc (nl (ssT kf L)))] := by
  have kS := stable_ac hg L hl hA
  refine AC.mk (n := 9) (fn := Try.f93) Try.func93 (by kernel_rfl) rfl rfl rfl rfl (fun cx => ?_); dsimp only [argv, Nat.reduceAdd]
  (repeat' (first | refine a_seq ?_ | refine a_block ?_ | refine a_skip ?_ | refine a_ret ?_ | refine a_exit ?_ | refine a_region ?_ | refine l_nil ?_ | (apply w_q; (focus (first | exact Q_move (by conv => lhs; whnf) | exact Q_len_nats rfl KSl.h | exact Q_len_ints rfl KSl.h | exact Q_len_ownN rfl rfl KSl.h | exact Q_len_own' rfl rfl KSl.h | exact Q_len_rows rfl KSl.h | exact Q_len_pairsN rfl KSl.h | exact Q_len_pairs rfl KSl.h | exact Q_len_ords rfl KSl.h | exact Q_len_nil' rfl KSl.h | exact Q_len_ownp rfl rfl KSl.h)); (focus exact rfl)) | ((refine w_callW (res := .tup []) (news := [.row 3 1 (intc (nl (ssT kf L)))]) [0] (.inl ⟨rfl, rfl⟩) (kS) ?_ ?_ rfl rfl (by decide) ?_ rfl rfl ?_ (by first | (dsimp only [List.map, putL, AO.rn, AV.rn, AV.rnl, rn_ints, rn_rows, rn_pairs, List.map_cons, List.map_nil, List.set_cons_zero, List.set_cons_succ, List.getD_cons_zero, List.getD_cons_succ]; done) | exact rfl) (by first | (dsimp only [List.map, putL, AO.rn, AV.rn, AV.rnl, rn_ints, rn_rows, rn_pairs, List.map_cons, List.map_nil, List.set_cons_zero, List.set_cons_succ, List.getD_cons_zero, List.getD_cons_succ]; done) | exact rfl) rfl ?_; rotate_left 0; (focus exact rfl); (focus exact rfl); (focus exact rfl); (focus exact rfl); rotate_left 1; all_goals (try (skip)))))); (try all_goals (try show retA _ _ _ _ _ _ _))
  all_goals first
    | (exfalso; omega)
    | (try dsimp only [thenA, blockA]
       refine ⟨[], [0], trivial, VwOs.mk (by decide) ⟨⟨_, rfl, .row _ _ _⟩, trivial⟩, ?_, rfl⟩
       exact Vw.tup' trivial)
    | (all_goals trace_state); fail
end Go.Proofs.Ytdbngpkbamhbeaa
