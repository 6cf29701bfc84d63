import Derived.Test.YtbgecpjlopdkfaaDoorHgc
import Derived.Test.YtbgecpjlopdkfaaDoorFkb
set_option linter.unusedSimpArgs false
set_option linter.unusedVariables false
set_option linter.unusedSectionVars false
set_option maxRecDepth 20000
namespace Go.Proofs.YtbgecpjlopdkfaaDoor
attribute [local irreducible] QOp aL aC qL
theorem any_rng {f : Int → Bool} (L : List Int) : ((List.range L.length).any fun j => f (L.getD j 0)) = L.any f := by
  rw [Bool.eq_iff_iff, List.any_eq_true, List.any_eq_true]
  constructor
  · rintro ⟨j, hj, h⟩
    have hj := List.mem_range.1 hj
    rw [List.getD_eq_getElem?_getD, List.getElem?_eq_getElem hj] at h
    exact ⟨_, List.getElem_mem hj, h⟩
  · rintro ⟨x, hx, h⟩
    obtain ⟨j, hj, rfl⟩ := List.getElem_of_mem hx
    refine ⟨j, List.mem_range.2 hj, ?_⟩
    rw [List.getD_eq_getElem?_getD, List.getElem?_eq_getElem hj]
    exact h
def cfB (ns : List Nat) (s a b : Nat) : Bool := s.testBit a && (lt ns a b && !s.testBit b)
theorem up_not {n : Nat} {ns : List Nat} (hv : Vld n ns) (s : Nat) : (!upB n ns s) = (List.range n).any fun a => (List.range n).any fun b => cfB ns s a b := by
  rw [Bool.eq_iff_iff, Bool.not_eq_true', Bool.eq_false_iff, List.any_eq_true]
  constructor
  · intro h
    apply Classical.byContradiction
    intro hn
    refine h (List.all_eq_true.2 fun p hp => ?_)
    cases hb : s.testBit p
    · rw [Bool.or_false, decide_eq_true_eq]
      apply Nat.eq_of_testBit_eq
      intro a
      rw [Nat.testBit_and, Nat.zero_testBit]
      cases ha : (ns.getD p 0).testBit a
      · rfl
      · cases hs : s.testBit a
        · rfl
        · exfalso
          have hl : lt ns a p = true := ha
          refine hn ⟨a, List.mem_range.2 (lt_lt hv.2 hl), List.any_eq_true.2 ⟨p, hp, ?_⟩⟩
          unfold cfB
          rw [hs, hl, hb]; rfl
    · rw [Bool.or_true]
  · rintro ⟨a, _, h⟩ hu
    obtain ⟨b, hb, h⟩ := List.any_eq_true.1 h
    unfold cfB at h
    rw [Bool.and_eq_true, Bool.and_eq_true, Bool.not_eq_true'] at h
    have := List.all_eq_true.1 hu b hb
    rw [h.2.2, Bool.or_false, decide_eq_true_eq] at this
    have e := Nat.testBit_and (ns.getD b 0) s a
    rw [this, Nat.zero_testBit, h.1, show (ns.getD b 0).testBit a = true from h.2.1] at e
    cases e
theorem any_succF (f : Nat → Bool) (m : Nat) : (List.range (m + 1)).any f = ((List.range m).any f || f m) := by
  rw [List.range_succ, List.any_append]; simp
section
variable {k v : Int} {l : List Tr} (hb : 1 + kcnt l ≤ 100000000)
include hb
set_option maxRecDepth 20000 in
set_option maxHeartbeats 4000000 in
theorem RCF_err (N : Int) (L : List Int) (vars : List Int) (p : Int) (h : chk N L ≠ 0) : AC Tryd.prog 37 [ordv N L, ints vars, .val (.int .i64 p), ta3 k v l] [] (.val (.int .i64 (chk N L))) [] := by
  have k1 := CheckOrder_ac N L
  generalize chk N L = e at *
  unfold ta3 tks at *
  refine AC.mk (n := 91) (fn := Tryd.f37) Tryd.func37 (by kernel_rfl) rfl rfl rfl rfl (fun cx => ?_); dsimp only [argv, Nat.reduceAdd]
  (repeat' (first | refine a_seq ?_ | refine a_ret ?_ | refine a_region ?_ | refine l_nil ?_ | (apply w_q; (focus (first | exact Q_move (by conv => lhs; whnf) | exact Q_assign (by conv => lhs; whnf) | exact Q_load_all rfl rfl KAg.h | exact Q_neq rfl rfl)); (focus exact rfl)) | (refine a_cond rfl ?_ ?_ <;> (intro h; (try (have hp := of_decide_eq_true h)); (try (have hp := of_decide_eq_false h)); (try contradiction); (try (exfalso; omega)))) | refine w_box rfl rfl (by first|(dsimp only[obA,obB,obD,obE,obF,obG,obI,List.map,AO.sh,AV.sh,AV.shl,Nat.reduceAdd];done)|exact rfl) (by first|(dsimp only[obA,obB,obD,obE,obF,obG,obI,List.map,AO.sh,AV.sh,AV.shl,Nat.reduceAdd];done)|exact rfl) rfl ?_ | (((first | apply w_q); (focus (refine Q_call (.inl ⟨rfl, rfl⟩) (k1) ?_; ((repeat' (first | exact trivial | exact vwR rfl | exact Vw.ro _ | refine Vw.agg' ?_ | refine ⟨?_, ?_⟩ )); done))); (focus exact rfl))))); (try all_goals (try show retA _ _ _ _ _ _ _))
  all_goals first
    | (exfalso; omega)
    | (exfalso; simp_all; done)
    | (refine ⟨[_], [], ⟨resV_tmp (by conv => lhs; whnf), trivial⟩, VwOs.mk (by decide) trivial, ?_, rfl⟩; (repeat' (first | exact vwR rfl)); done)
    | (all_goals trace_state); fail
section
variable {n : Nat} {ns : List Nat} (hn : n ≤ 10) (hv : Vld n ns) (hok : okB n ns = true)
include hn hv hok
set_option maxRecDepth 20000 in
set_option maxHeartbeats 4000000 in
theorem RCF_ok (vars : List Int) (hvl : vars.length ≤ 9223372036854775807) (p : Int) :
    AC Tryd.prog 37 [ordv n (nl ns), ints vars, .val (.int .i64 p), ta3 k v l] [] (.val (.int .i64 (if fmck (.mk k v l) ≠ 0 then fmck (.mk k v l) else fcE n ns vars p))) [] := by
  have k1 := CheckOrder_ac n (nl ns)
  rw [chk_ok hn hv hok] at k1
  have k2 := CheckFormula_ac k v l hb
  have hpn : 2 ^ n ≤ 1024 := Nat.pow_le_pow_right (n := 2) (by decide) hn
  have hle : ∀ x ∈ ns, x ≤ 9223372036854775807 := fun x hx => by have := hv.2 x hx; omega
  have hlen := hv.1
  have kB := Bit_ac n (by omega)
  have kI := fun s i hs hi => In_ac s i hs hi
  have kL := fun a b (ha : a < n) (hb : b < n) => Less_ac n ns a b (by omega) (by omega) hle
  have hun := up_not hv
  unfold fcE
  rw [← any_rng (f := fun x => !upB n ns x.toNat) vars]
  generalize fmck (.mk k v l) = e at *
  unfold ta3 tks at *
  by_cases he : e = 0
  · subst he
    rw [if_neg (by decide)]
    by_cases hl3 : vars.length = 3
    · rw [if_neg (by omega), hl3]
      have hbad : ∀ j, j < 3 → bdS n (vars.getD j 0) = true → vars.any (bdS n) = true := fun j hj h => List.any_eq_true.2 ⟨vars.getD j 0, by
        rw [List.getD_eq_getElem?_getD, List.getElem?_eq_getElem (by omega)]; exact List.getElem_mem _, h⟩
      have hgood : (∀ j, j < 3 → bdS n (vars.getD j 0) = false) → vars.any (bdS n) = false := fun h => by
        rw [List.any_eq_false]
        intro x hx
        obtain ⟨j, hj, rfl⟩ := List.getElem_of_mem hx
        have := h j (by omega)
        rw [List.getD_eq_getElem?_getD, List.getElem?_eq_getElem hj] at this
        rw [Bool.not_eq_true]
        exact this
      have hst := any_succF fun j => !upB n ns (vars.getD j 0).toNat
      have hst0 : ((List.range 0).any fun j => !upB n ns (vars.getD j 0).toNat) = false := rfl
      generalize hgS : (fun m => (List.range m).any fun j => !upB n ns (vars.getD j 0).toNat) = stL at *
      have hg : ∀ m, ((List.range m).any fun j => !upB n ns (vars.getD j 0).toNat) = stL m := fun m => by rw [← hgS]
      simp only [hg] at hst hst0 ⊢
      clear hgS hg
      refine AC.mk (n := 91) (fn := Tryd.f37) Tryd.func37 (by kernel_rfl) rfl rfl rfl rfl (fun cx => ?_); dsimp only [argv, Nat.reduceAdd]
      (repeat' (first | refine a_seq ?_ | refine a_region ?_ | refine l_nil ?_ | (apply w_q; (focus (first | exact Q_assign (by conv => lhs; whnf))); (focus exact rfl)) | refine w_box rfl rfl (by first|(dsimp only[obA,obB,obD,obE,obF,obG,obI,List.map,AO.sh,AV.sh,AV.shl,Nat.reduceAdd];done)|exact rfl) (by first|(dsimp only[obA,obB,obD,obE,obF,obG,obI,List.map,AO.sh,AV.sh,AV.shl,Nat.reduceAdd];done)|exact rfl) rfl ?_)); (try all_goals (try show retA _ _ _ _ _ _ _))
      refine w_freezeB 0 [.val (.int .i64 n), .sl 1 (intc (nl ns))] rfl rfl (by simp only [fbv_nil, fbv_cons, fbl_nil, fbl_cons, fbo_nil, fbo_cons, fbo_box, fbo_row, fbo_gone, fb_own, fb_val, fb_ro, fb_rpt, fb_ptr, fb_ept, fb_agg, fb_tup, fb_clo, fb_ints, fb_rows, fb_pairs, fb_ords, Nat.reduceEqDiff, ↓reduceIte, List.set_cons_zero, List.set_cons_succ]; exact rfl) (by simp only [fbv_nil, fbv_cons, fbl_nil, fbl_cons, fbo_nil, fbo_cons, fbo_box, fbo_row, fbo_gone, fb_own, fb_val, fb_ro, fb_rpt, fb_ptr, fb_ept, fb_agg, fb_tup, fb_clo, fb_ints, fb_rows, fb_pairs, fb_ords, Nat.reduceEqDiff, ↓reduceIte, List.set_cons_zero, List.set_cons_succ]; exact rfl) ?_
      refine w_freezeB 1 [.val (.int .i64 k), .val (.int .i64 v), .sl 3 (kdc l)] rfl rfl (by simp only [fbv_nil, fbv_cons, fbl_nil, fbl_cons, fbo_nil, fbo_cons, fbo_box, fbo_row, fbo_gone, fb_own, fb_val, fb_ro, fb_rpt, fb_ptr, fb_ept, fb_agg, fb_tup, fb_clo, fb_ints, fb_rows, fb_pairs, fb_ords, Nat.reduceEqDiff, ↓reduceIte, List.set_cons_zero, List.set_cons_succ]; exact rfl) (by simp only [fbv_nil, fbv_cons, fbl_nil, fbl_cons, fbo_nil, fbo_cons, fbo_box, fbo_row, fbo_gone, fb_own, fb_val, fb_ro, fb_rpt, fb_ptr, fb_ept, fb_agg, fb_tup, fb_clo, fb_ints, fb_rows, fb_pairs, fb_ords, Nat.reduceEqDiff, ↓reduceIte, List.set_cons_zero, List.set_cons_succ]; exact rfl) ?_
      (repeat' (first | refine a_seq ?_ | refine a_block ?_ | refine a_skip ?_ | refine a_region ?_ | refine l_nil ?_ | (apply w_q; (focus (first | exact Q_move (by conv => lhs; whnf) | exact Q_assign (by conv => lhs; whnf) | exact Q_neq rfl rfl | exact Q_ld_rpa rfl KAg.h rfl rfl (by first | (dsimp only [List.drop_zero, List.drop_succ_cons, List.take_succ_cons, List.take_zero, List.map, ofD]; done) | exact rfl) | exact Q_len_ints rfl KSl.h)); (focus exact rfl)) | (refine a_cond rfl ?_ ?_ <;> (intro h; (try (have hp := of_decide_eq_true h)); (try (have hp := of_decide_eq_false h)); (try contradiction); (try (exfalso; omega)))) | (((first | apply w_q); (focus (refine Q_call (.inl ⟨rfl, rfl⟩) (k1) ?_; ((repeat' (first | exact trivial | exact vwR rfl | exact Vw.ro _ | refine Vw.agg' ?_ | refine ⟨?_, ?_⟩ )); done))); (focus exact rfl))) | (((first | apply w_q); (focus (refine Q_call (.inl ⟨rfl, rfl⟩) (k2) ?_; ((repeat' (first | exact trivial | exact vwRL rfl | refine Vw.agg' ?_ | refine ⟨?_, ?_⟩ )); done))); (focus exact rfl))))); (try all_goals (try show retA _ _ _ _ _ _ _))
      all_goals first
        | (exfalso; omega)
        | (exfalso; simp_all; done)
        | skip
      clear k1 k2
      refine w_loop (X := Nat) [1, 2, 4] (by simp only [keepv, getv_cons, Nat.reduceEqDiff, ↓reduceIte]; exact rfl) (fun i => [(10, .val (.bool (stL i))), (11, .val (.int .i64 (i : Nat)))]) (fun _ => [.gone, .gone]) (fun i => i ≤ 3 ∧ ∀ j, j < i → bdS n (vars.getD j 0) = false) (fun i => 3 - i) (0) ([0, 1]) ?_ ?_ rfl ?_ <;> (try dsimp only [List.cons_append, List.nil_append])
      · exact ⟨Nat.zero_le _, fun _ h => by omega⟩
      · rw [hst0]; (refine St.le_mk rfl (VwOs.mk (by decide) ?_) ?_ <;> (repeat' (first | exact trivial | exact vwR rfl | exact Vw.ro _ | exact VwO.gone _ | refine ⟨⟨_, rfl, ?_⟩, ?_⟩ | refine ⟨?_, ?_⟩ )))
      rintro i ⟨hi, hall⟩
      by_cases hi3 : i < 3
      · have hs1 := hst i
        rw [hun] at hs1
        have hbi := hbad i hi3
        have hbd : bdS n (vars.getD i 0) = decide (vars.getD i 0 < 0 ∨ ((2 ^ n : Nat) : Int) ≤ vars.getD i 0) := rfl
        cases hb : bdS n (vars.getD i 0)
        · rw [hb] at hbd
          have hbd := of_decide_eq_false hbd.symm
          obtain ⟨s, hs⟩ := Int.eq_ofNat_of_zero_le (show 0 ≤ vars.getD i 0 by omega)
          have hsn : s < 2 ^ n := by omega
          rw [hs, Int.toNat_natCast] at hs1
          rw [hs] at hbd
          have hal : ∀ j, j < i + 1 → bdS n (vars.getD j 0) = false := fun j hj => by
            by_cases e : j = i
            · subst e; exact hb
            · exact hall j (by omega)
          clear hst hst0 hbad hgood hbi hb hall hun
          (repeat' (first | refine a_seq ?_ | refine a_block ?_ | refine a_skip ?_ | refine a_region ?_ | refine l_nil ?_ | refine q_nil ?_ | ((first | apply w_q | apply w_qq); (focus (first | exact Q_move (by conv => lhs; whnf) | exact Q_assign (by conv => lhs; whnf) | exact Q_fieldAddr_rpt rfl KFl.h | exact Q_lss rfl rfl | exact Q_geq rfl rfl | exact Q_ix_ints rfl rfl rfl KSl.h (by omega) | exact Q_ld_rv rfl rfl KSc.h | exact Q_ld_ints rfl (by omega) KSc.h | exact Q_pick_f rfl (by assumption) (by conv => lhs; whnf))); (focus exact rfl)) | (refine a_cond rfl ?_ ?_ <;> (intro h; (try (have hp := of_decide_eq_true h)); (try (have hp := of_decide_eq_false h)); (try contradiction); (try (exfalso; omega)))) | refine w_qguard_y rfl rfl rfl (by first | assumption | rfl) ?_ | ((first | refine w_qguard rfl rfl rfl ?_ ?_) <;> (intro h; (try (have hp := of_decide_eq_true h)); (try (have hp := of_decide_eq_false h)); (try contradiction); (try (exfalso; omega)))) | refine a_draw (by kernel_rfl) (by kernel_rfl) ?_ | (((first | apply w_qq); (focus (refine Q_call (.inl ⟨rfl, rfl⟩) (kB) ?_; ((repeat' (first | exact vwRL rfl)); done))); (focus exact rfl))))); (try all_goals (try show retA _ _ _ _ _ _ _))
          all_goals first
            | (exfalso; omega)
            | (exfalso; simp_all; done)
            | (exfalso; simp_all; omega)
            | skip
          obtain ⟨T2, t20, t2s, t2n⟩ : ∃ T2 : Nat → Bool, T2 0 = stL i ∧ (∀ a, T2 (a + 1) = (T2 a || (List.range n).any fun b => cfB ns s a b)) ∧ T2 n = stL (i + 1) :=
            ⟨fun a => stL i || (List.range a).any fun a => (List.range n).any fun b => cfB ns s a b, by simp, fun a => by
              show (stL i || (List.range (a + 1)).any _) = _
              rw [any_succF, Bool.or_assoc], hs1.symm⟩
          refine w_loop (X := Nat) [1, 2, 4, 11] (by simp only [keepv, getv_cons, Nat.reduceEqDiff, ↓reduceIte]; exact rfl) (fun a => [(10, .val (.bool (T2 a))), (12, .val (.int .i64 (a : Nat)))]) (fun _ => [.gone, .gone]) (fun a => a ≤ n) (fun a => n - a) (0) ([0, 1]) ?_ ?_ rfl ?_ <;> (try dsimp only [List.cons_append, List.nil_append])
          · exact Nat.zero_le _
          · rw [t20]; (refine St.le_mk rfl (VwOs.mk (by decide) ?_) ?_ <;> (repeat' (first | exact trivial | exact vwR rfl | exact Vw.ro _ | exact VwO.gone _ | refine ⟨⟨_, rfl, ?_⟩, ?_⟩ | refine ⟨?_, ?_⟩ )))
          rintro a ha
          by_cases han : a < n
          · have kA := In_ac s a (by omega) (by omega)
            rw [← hs] at kA
            have t2a := t2s a
            obtain ⟨T3, t30, t3s, t3n⟩ : ∃ T3 : Nat → Bool, T3 0 = T2 a ∧ (∀ b, T3 (b + 1) = (T3 b || cfB ns s a b)) ∧ T3 n = T2 (a + 1) :=
              ⟨fun b => T2 a || (List.range b).any fun b => cfB ns s a b, by simp, fun b => by
                show (T2 a || (List.range (b + 1)).any _) = _
                rw [any_succF, Bool.or_assoc], t2a.symm⟩
            (repeat' (first | refine a_seq ?_ | refine a_block ?_ | refine a_skip ?_ | refine a_region ?_ | refine l_nil ?_ | (apply w_q; (focus (first | exact Q_move (by conv => lhs; whnf) | exact Q_assign (by conv => lhs; whnf) | exact Q_fieldAddr_rpt rfl KFl.h | exact Q_lss rfl rfl | exact Q_ld_rv rfl rfl KSc.h)); (focus exact rfl)) | (refine a_cond rfl ?_ ?_ <;> (intro h; (try (have hp := of_decide_eq_true h)); (try (have hp := of_decide_eq_false h)); (try contradiction); (try (exfalso; omega)))))); (try all_goals (try show retA _ _ _ _ _ _ _))
            all_goals first
              | (exfalso; omega)
              | skip
            refine w_loop (X := Nat) [1, 2, 4, 11, 12] (by simp only [keepv, getv_cons, Nat.reduceEqDiff, ↓reduceIte]; exact rfl) (fun b => [(10, .val (.bool (T3 b))), (13, .val (.int .i64 (b : Nat)))]) (fun _ => [.gone, .gone]) (fun b => b ≤ n) (fun b => n - b) (0) ([0, 1]) ?_ ?_ rfl ?_ <;> (try dsimp only [List.cons_append, List.nil_append])
            · exact Nat.zero_le _
            · rw [t30]; (refine St.le_mk rfl (VwOs.mk (by decide) ?_) ?_ <;> (repeat' (first | exact trivial | exact vwR rfl | exact Vw.ro _ | exact VwO.gone _ | refine ⟨⟨_, rfl, ?_⟩, ?_⟩ | refine ⟨?_, ?_⟩ )))
            rintro b hbn
            by_cases hbl : b < n
            · have kB2 := In_ac s b (by omega) (by omega)
              rw [← hs] at kB2
              have kLs := kL a b han hbl
              have t3b := t3s b
              unfold cfB lt at t3b
              generalize T3 b = tb at *
              generalize s.testBit a = x1 at *
              generalize (ns.getD b 0).testBit a = x2 at *
              generalize s.testBit b = x3 at *
              clear t3s t2s t2a hs1 hal kL kI
              cases tb <;> cases x1 <;> cases x2 <;> cases x3
              all_goals
                simp only [Bool.true_or, Bool.false_or, Bool.false_and, Bool.true_and, Bool.not_true, Bool.not_false, Bool.and_false, Bool.and_true] at t3b
                (repeat' (first | refine a_seq ?_ | refine a_block ?_ | refine a_skip ?_ | refine a_region ?_ | refine l_nil ?_ | (apply w_q; (focus (first | exact Q_move (by conv => lhs; whnf) | exact Q_assign (by conv => lhs; whnf) | exact Q_fieldAddr_rpt rfl KFl.h | exact Q_lss rfl rfl | exact Q_add rfl rfl (by omega) | exact Q_ix_ints rfl rfl rfl KSl.h (by omega) | exact Q_ld_rpa rfl KAg.h rfl rfl (by first | (dsimp only [List.drop_zero, List.drop_succ_cons, List.take_succ_cons, List.take_zero, List.map, ofD]; done) | exact rfl) | exact Q_ld_rv rfl rfl KSc.h | exact Q_ld_ints rfl (by omega) KSc.h | exact Q_not rfl | exact Q_pick_f rfl (by assumption) (by conv => lhs; whnf) | exact Q_pick_t rfl rfl (by conv => lhs; whnf))); (focus exact rfl)) | (refine a_cond rfl ?_ ?_ <;> (intro h; (try (have hp := of_decide_eq_true h)); (try (have hp := of_decide_eq_false h)); (try contradiction); (try (exfalso; omega)))) | refine w_guard_u rfl rfl rfl ?_ | refine w_guard_y rfl rfl rfl (by first | assumption | rfl) ?_ | refine w_guard_n rfl rfl rfl (by first | assumption | rfl) ?_ | (((first | apply w_q); (focus (refine Q_call (.inl ⟨rfl, rfl⟩) (kA) ?_; ((repeat' (first | exact trivial | exact vwR rfl | exact vwRL rfl | refine ⟨?_, ?_⟩ )); done))); (focus exact rfl))) | (((first | apply w_q); (focus (refine Q_call (.inl ⟨rfl, rfl⟩) (kLs) ?_; ((repeat' (first | exact trivial | exact vwR rfl | exact vwRL rfl | exact Vw.ro _ | refine Vw.agg' ?_ | refine ⟨?_, ?_⟩ )); done))); (focus exact rfl))) | (((first | apply w_q); (focus (refine Q_call (.inl ⟨rfl, rfl⟩) (kB2) ?_; ((repeat' (first | exact vwRL rfl)); done))); (focus exact rfl))))); (try all_goals (try show retA _ _ _ _ _ _ _))
              all_goals first
                | (exfalso; omega)
                | (exfalso; simp_all; done)
                | (try dsimp only [thenA, blockA]
                   refine ⟨b + 1, [0, 1], ?_, ?_, ?_, rfl⟩ <;> (try dsimp only)
                   · omega
                   · omega
                   · rw [t3b]; (refine St.le_mk rfl (VwOs.mk (by decide) ?_) ?_ <;> (repeat' (first | exact trivial | exact vwR rfl | exact Vw.ro _ | exact VwO.gone _ | refine ⟨⟨_, rfl, ?_⟩, ?_⟩ | refine ⟨?_, ?_⟩ ))))
                | (all_goals trace_state); fail
            · obtain rfl : b = n := by omega
              rw [t3n]
              (repeat' (first | refine a_seq ?_ | refine a_exit ?_ | refine a_region ?_ | refine l_nil ?_ | (apply w_q; (focus (first | exact Q_move (by conv => lhs; whnf) | exact Q_assign (by conv => lhs; whnf) | exact Q_fieldAddr_rpt rfl KFl.h | exact Q_lss rfl rfl | exact Q_add rfl rfl (by omega) | exact Q_ld_rv rfl rfl KSc.h)); (focus exact rfl)) | (refine a_cond rfl ?_ ?_ <;> (intro h; (try (have hp := of_decide_eq_true h)); (try (have hp := of_decide_eq_false h)); (try contradiction); (try (exfalso; omega)))))); (try all_goals (try show retA _ _ _ _ _ _ _))
              all_goals first
                | (exfalso; omega)
                | (try dsimp only [thenA, blockA]
                   refine ⟨a + 1, [0, 1], ?_, ?_, ?_, rfl⟩ <;> (try dsimp only)
                   · omega
                   · omega
                   · (refine St.le_mk rfl (VwOs.mk (by decide) ?_) ?_ <;> (repeat' (first | exact trivial | exact vwR rfl | exact Vw.ro _ | exact VwO.gone _ | refine ⟨⟨_, rfl, ?_⟩, ?_⟩ | refine ⟨?_, ?_⟩ ))))
                | (all_goals trace_state); fail
          · obtain rfl : a = n := by omega
            rw [t2n]
            (repeat' (first | refine a_seq ?_ | refine a_exit ?_ | refine a_region ?_ | refine l_nil ?_ | (apply w_q; (focus (first | exact Q_move (by conv => lhs; whnf) | exact Q_assign (by conv => lhs; whnf) | exact Q_fieldAddr_rpt rfl KFl.h | exact Q_lss rfl rfl | exact Q_add rfl rfl (by omega) | exact Q_ld_rv rfl rfl KSc.h)); (focus exact rfl)) | (refine a_cond rfl ?_ ?_ <;> (intro h; (try (have hp := of_decide_eq_true h)); (try (have hp := of_decide_eq_false h)); (try contradiction); (try (exfalso; omega)))))); (try all_goals (try show retA _ _ _ _ _ _ _))
            all_goals first
              | (exfalso; omega)
              | (try dsimp only [thenA, blockA]
                 refine ⟨i + 1, [0, 1], ?_, ?_, ?_, rfl⟩ <;> (try dsimp only)
                 · exact ⟨by omega, hal⟩
                 · omega
                 · (refine St.le_mk rfl (VwOs.mk (by decide) ?_) ?_ <;> (repeat' (first | exact trivial | exact vwR rfl | exact Vw.ro _ | exact VwO.gone _ | refine ⟨⟨_, rfl, ?_⟩, ?_⟩ | refine ⟨?_, ?_⟩ ))))
              | (all_goals trace_state); fail
        · rw [if_pos (.inr (.inr (hbi hb)))]
          rw [hb] at hbd
          have hbd := of_decide_eq_true hbd.symm
          rcases (show vars.getD i 0 < 0 ∨ (0 ≤ vars.getD i 0 ∧ ((2 ^ n : Nat) : Int) ≤ vars.getD i 0) by omega) with c | ⟨c0, c⟩
          all_goals
            (repeat' (first | refine a_seq ?_ | refine a_block ?_ | refine a_skip ?_ | refine a_ret ?_ | refine a_region ?_ | refine l_nil ?_ | refine q_nil ?_ | ((first | apply w_q | apply w_qq); (focus (first | exact Q_move (by conv => lhs; whnf) | exact Q_assign (by conv => lhs; whnf) | exact Q_fieldAddr_rpt rfl KFl.h | exact Q_lss rfl rfl | exact Q_geq rfl rfl | exact Q_ix_ints rfl rfl rfl KSl.h (by omega) | exact Q_ld_rv rfl rfl KSc.h | exact Q_ld_ints rfl (by omega) KSc.h | exact Q_pick_t rfl (by assumption) (by conv => lhs; whnf) | exact Q_pick_f rfl (by assumption) (by conv => lhs; whnf))); (focus exact rfl)) | (refine a_cond rfl ?_ ?_ <;> (intro h; (try (have hp := of_decide_eq_true h)); (try (have hp := of_decide_eq_false h)); (try contradiction); (try (exfalso; omega)))) | refine w_qguard_y rfl rfl rfl (by first | assumption | rfl) ?_ | refine w_qguard_n rfl rfl rfl (by first | assumption | rfl) ?_ | ((first | refine w_qguard rfl rfl rfl ?_ ?_) <;> (intro h; (try (have hp := of_decide_eq_true h)); (try (have hp := of_decide_eq_false h)); (try contradiction); (try (exfalso; omega)))) | refine a_draw (by kernel_rfl) (by kernel_rfl) ?_ | (((first | apply w_qq); (focus (refine Q_call (.inl ⟨rfl, rfl⟩) (kB) ?_; ((repeat' (first | exact vwRL rfl)); done))); (focus exact rfl))))); (try all_goals (try show retA _ _ _ _ _ _ _))
          all_goals first
            | (exfalso; omega)
            | (refine ⟨[_], [], ⟨resV_tmp (by conv => lhs; whnf), trivial⟩, VwOs.mk (by decide) trivial, ?_, rfl⟩; (repeat' (first | exact vwR rfl)); done)
            | (all_goals trace_state); fail
      · obtain rfl : i = 3 := by omega
        have hb1 := hgood fun j hj => hall j hj
        rw [hb1]
        by_cases hp : p < 0 ∨ (n : Int) ≤ p
        · rw [if_pos (by rcases hp with h | h; exact .inl h; exact .inr (.inl h))]
          generalize stL 3 = S3 at *
          rcases (show p < 0 ∨ (0 ≤ p ∧ (n : Int) ≤ p) by omega) with c | ⟨c0, c⟩
          all_goals
            (repeat' (first | refine a_seq ?_ | refine a_ret ?_ | refine a_exit ?_ | refine a_region ?_ | refine l_nil ?_ | (apply w_q; (focus (first | exact Q_move (by conv => lhs; whnf) | exact Q_assign (by conv => lhs; whnf) | exact Q_fieldAddr_rpt rfl KFl.h | exact Q_lss rfl rfl | exact Q_geq rfl rfl | exact Q_ld_rv rfl rfl KSc.h | exact Q_pick_t rfl (by assumption) (by conv => lhs; whnf) | exact Q_pick_f rfl (by assumption) (by conv => lhs; whnf))); (focus exact rfl)) | (refine a_cond rfl ?_ ?_ <;> (intro h; (try (have hp := of_decide_eq_true h)); (try (have hp := of_decide_eq_false h)); (try contradiction); (try (exfalso; omega)))) | refine w_guard_y rfl rfl rfl (by first | assumption | rfl) ?_ | refine w_guard_n rfl rfl rfl (by first | assumption | rfl) ?_ | (refine w_guard rfl rfl rfl ?_ ?_ <;> (intro h; (try (have hp := of_decide_eq_true h)); (try (have hp := of_decide_eq_false h)); (try contradiction); (try (exfalso; omega)))))); (try all_goals (try show retA _ _ _ _ _ _ _))
          all_goals first
            | (exfalso; omega)
            | (exfalso; simp_all; done)
            | (refine ⟨[_], [], ⟨resV_tmp (by conv => lhs; whnf), trivial⟩, VwOs.mk (by decide) trivial, ?_, rfl⟩; (repeat' (first | exact vwR rfl)); done)
            | (all_goals trace_state); fail
        · rw [if_neg (by rintro (h | h | h); exact hp (.inl h); exact hp (.inr h); cases h)]
          generalize stL 3 = S3 at *
          cases S3
          · rw [if_neg (by decide)]
            (repeat' (first | refine a_seq ?_ | refine a_skip ?_ | refine a_ret ?_ | refine a_exit ?_ | refine a_region ?_ | refine l_nil ?_ | (apply w_q; (focus (first | exact Q_move (by conv => lhs; whnf) | exact Q_assign (by conv => lhs; whnf) | exact Q_fieldAddr_rpt rfl KFl.h | exact Q_lss rfl rfl | exact Q_geq rfl rfl | exact Q_ld_rv rfl rfl KSc.h | exact Q_pick_f rfl (by assumption) (by conv => lhs; whnf))); (focus exact rfl)) | (refine a_cond rfl ?_ ?_ <;> (intro h; (try (have hp := of_decide_eq_true h)); (try (have hp := of_decide_eq_false h)); (try contradiction); (try (exfalso; omega)))) | refine w_guard_y rfl rfl rfl (by first | assumption | rfl) ?_ | (refine w_guard rfl rfl rfl ?_ ?_ <;> (intro h; (try (have hp := of_decide_eq_true h)); (try (have hp := of_decide_eq_false h)); (try contradiction); (try (exfalso; omega)))))); (try all_goals (try show retA _ _ _ _ _ _ _))
            all_goals first
              | (exfalso; omega)
              | (exfalso; simp_all; done)
              | (refine ⟨[_], [], ⟨resV_tmp (by conv => lhs; whnf), trivial⟩, VwOs.mk (by decide) trivial, ?_, rfl⟩; (repeat' (first | exact vwR rfl)); done)
              | (all_goals trace_state); fail
          · rw [if_pos rfl]
            (repeat' (first | refine a_seq ?_ | refine a_skip ?_ | refine a_ret ?_ | refine a_exit ?_ | refine a_region ?_ | refine l_nil ?_ | (apply w_q; (focus (first | exact Q_move (by conv => lhs; whnf) | exact Q_assign (by conv => lhs; whnf) | exact Q_fieldAddr_rpt rfl KFl.h | exact Q_lss rfl rfl | exact Q_geq rfl rfl | exact Q_ld_rv rfl rfl KSc.h | exact Q_pick_f rfl (by assumption) (by conv => lhs; whnf))); (focus exact rfl)) | (refine a_cond rfl ?_ ?_ <;> (intro h; (try (have hp := of_decide_eq_true h)); (try (have hp := of_decide_eq_false h)); (try contradiction); (try (exfalso; omega)))) | refine w_guard_y rfl rfl rfl (by first | assumption | rfl) ?_ | (refine w_guard rfl rfl rfl ?_ ?_ <;> (intro h; (try (have hp := of_decide_eq_true h)); (try (have hp := of_decide_eq_false h)); (try contradiction); (try (exfalso; omega)))))); (try all_goals (try show retA _ _ _ _ _ _ _))
            all_goals first
              | (exfalso; omega)
              | (exfalso; simp_all; done)
              | (refine ⟨[_], [], ⟨resV_tmp (by conv => lhs; whnf), trivial⟩, VwOs.mk (by decide) trivial, ?_, rfl⟩; (repeat' (first | exact vwR rfl)); done)
              | (all_goals trace_state); fail
    · rw [if_pos (by omega)]
      refine AC.mk (n := 91) (fn := Tryd.f37) Tryd.func37 (by kernel_rfl) rfl rfl rfl rfl (fun cx => ?_); dsimp only [argv, Nat.reduceAdd]
      (repeat' (first | refine a_seq ?_ | refine a_skip ?_ | refine a_ret ?_ | refine a_region ?_ | refine l_nil ?_ | (apply w_q; (focus (first | exact Q_move (by conv => lhs; whnf) | exact Q_assign (by conv => lhs; whnf) | exact Q_load_all rfl rfl KAg.h | exact Q_neq rfl rfl | exact Q_len_ints rfl KSl.h)); (focus exact rfl)) | (refine a_cond rfl ?_ ?_ <;> (intro h; (try (have hp := of_decide_eq_true h)); (try (have hp := of_decide_eq_false h)); (try contradiction); (try (exfalso; omega)))) | refine w_box rfl rfl (by first|(dsimp only[obA,obB,obD,obE,obF,obG,obI,List.map,AO.sh,AV.sh,AV.shl,Nat.reduceAdd];done)|exact rfl) (by first|(dsimp only[obA,obB,obD,obE,obF,obG,obI,List.map,AO.sh,AV.sh,AV.shl,Nat.reduceAdd];done)|exact rfl) rfl ?_ | (((first | apply w_q); (focus (refine Q_call (.inl ⟨rfl, rfl⟩) (k1) ?_; ((repeat' (first | exact trivial | exact vwR rfl | exact Vw.ro _ | refine Vw.agg' ?_ | refine ⟨?_, ?_⟩ )); done))); (focus exact rfl))) | (((first | apply w_q); (focus (refine Q_call (.inl ⟨rfl, rfl⟩) (k2) ?_; ((repeat' (first | exact trivial | exact vwRL rfl | refine Vw.agg' ?_ | refine ⟨?_, ?_⟩ )); done))); (focus exact rfl))))); (try all_goals (try show retA _ _ _ _ _ _ _))
      all_goals first
        | (exfalso; omega)
        | (exfalso; simp_all; done)
        | (refine ⟨[_], [], ⟨resV_tmp (by conv => lhs; whnf), trivial⟩, VwOs.mk (by decide) trivial, ?_, rfl⟩; (repeat' (first | exact vwR rfl)); done)
        | (all_goals trace_state); fail
  · rw [if_pos he]
    refine AC.mk (n := 91) (fn := Tryd.f37) Tryd.func37 (by kernel_rfl) rfl rfl rfl rfl (fun cx => ?_); dsimp only [argv, Nat.reduceAdd]
    (repeat' (first | refine a_seq ?_ | refine a_skip ?_ | refine a_ret ?_ | refine a_region ?_ | refine l_nil ?_ | (apply w_q; (focus (first | exact Q_move (by conv => lhs; whnf) | exact Q_assign (by conv => lhs; whnf) | exact Q_load_all rfl rfl KAg.h | exact Q_neq rfl rfl)); (focus exact rfl)) | (refine a_cond rfl ?_ ?_ <;> (intro h; (try (have hp := of_decide_eq_true h)); (try (have hp := of_decide_eq_false h)); (try contradiction); (try (exfalso; omega)))) | refine w_box rfl rfl (by first|(dsimp only[obA,obB,obD,obE,obF,obG,obI,List.map,AO.sh,AV.sh,AV.shl,Nat.reduceAdd];done)|exact rfl) (by first|(dsimp only[obA,obB,obD,obE,obF,obG,obI,List.map,AO.sh,AV.sh,AV.shl,Nat.reduceAdd];done)|exact rfl) rfl ?_ | (((first | apply w_q); (focus (refine Q_call (.inl ⟨rfl, rfl⟩) (k1) ?_; ((repeat' (first | exact trivial | exact vwR rfl | exact Vw.ro _ | refine Vw.agg' ?_ | refine ⟨?_, ?_⟩ )); done))); (focus exact rfl))) | (((first | apply w_q); (focus (refine Q_call (.inl ⟨rfl, rfl⟩) (k2) ?_; ((repeat' (first | exact trivial | exact vwRL rfl | refine Vw.agg' ?_ | refine ⟨?_, ?_⟩ )); done))); (focus exact rfl))))); (try all_goals (try show retA _ _ _ _ _ _ _))
    all_goals first
      | (exfalso; omega)
      | (exfalso; simp_all; done)
      | (refine ⟨[_], [], ⟨resV_tmp (by conv => lhs; whnf), trivial⟩, VwOs.mk (by decide) trivial, ?_, rfl⟩; (repeat' (first | exact vwR rfl)); done)
      | (all_goals trace_state); fail
end
end
end Go.Proofs.YtbgecpjlopdkfaaDoor
