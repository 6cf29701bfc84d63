import Derived.Test.YtdbngpkbamhbeaaCy
import Derived.Test.YtdbngpkbamhbeaaCz
set_option linter.unusedSimpArgs false
set_option linter.unusedVariables false
set_option linter.unusedSectionVars false
set_option maxRecDepth 20000
namespace Go.Proofs.Ytdbngpkbamhbeaa
open Go.RowKit
attribute [local irreducible] QOp aL aC qL
attribute [local irreducible] FOp POp hL xH zL
set_option maxRecDepth 20000 in
theorem Has_ac (T : List (List Int)) (c : List Int) (hT : T.length ≤ 1000) (hr : ∀ i, i < T.length → (T.getD i []).length ≤ 1000) : AC Try.prog 78 [.own 0, ints c] [.row 32 1 (rowc T)] (.val (.bool (decide (c ∈ T)))) [.row 32 1 (rowc T)] := by
  have hno : (∀ j, j < T.length → T.getD j [] ≠ c) → decide (c ∈ T) = false := fun h => decide_eq_false fun hm => by
    obtain ⟨j, hj, e⟩ := List.mem_iff_getElem.1 hm
    exact h j hj (by rw [List.getD_eq_getElem?_getD, List.getElem?_eq_getElem hj]; exact e)
  have hyes : ∀ j, j < T.length → T.getD j [] = c → decide (c ∈ T) = true := fun j hj e => decide_eq_true (by
    rw [List.getD_eq_getElem?_getD, List.getElem?_eq_getElem hj, Option.getD_some] at e
    rw [← e]; exact List.getElem_mem hj)
  generalize decide (c ∈ T) = r at *
  refine AC.mk (n := 18) (fn := Try.f78) Try.func78 (by kernel_rfl) rfl rfl rfl rfl (fun cx => ?_); dsimp only [argv, Nat.reduceAdd]
  (repeat' (first | refine a_seq ?_ | refine a_block ?_ | refine a_skip ?_ | refine a_ret ?_ | refine a_exit ?_ | refine a_region ?_ | refine l_nil ?_ | (apply w_q; (focus (first | exact Q_assign (by conv => lhs; whnf))); (focus exact rfl)) | (refine a_cond rfl ?_ ?_ <;> (intro h; (try (have hp := of_decide_eq_true h)); (try (have hp := of_decide_eq_false h)); (try contradiction); (try (exfalso; omega)))))); (try all_goals (try show retA _ _ _ _ _ _ _))
  refine w_loop (X := Nat) [0, 1] (by simp only [keepv, getv_cons, Nat.reduceEqDiff, ↓reduceIte]; exact rfl) (fun i => [(5, .val (.int .i64 (i : Nat)))]) (fun _ => [.row 32 1 (rowc T)]) (fun i => i ≤ T.length ∧ ∀ j, j < i → T.getD j [] ≠ c) (fun i => T.length - i) (0) ([0]) ?_ ?_ rfl ?_ <;> (try dsimp only [List.cons_append, List.nil_append])
  · exact ⟨Nat.zero_le _, fun j hj => by omega⟩
  · (refine St.le_mk rfl (VwOs.mk (by decide) ?_) ?_ <;> (repeat' (first | exact trivial | exact vwR rfl | exact Vw.val _ | exact Vw.ro _ | exact Vw.any _ | exact Vw.own _ _ rfl | exact Vw.ptr _ _ _ rfl | exact Vw.rpt _ _ | exact Vw.valro _ | exact Vw.nilro _ | exact Vw.rowro _ _ _ _ rfl (by decide) | (refine Vw.int' ?_; first | rfl | omega | (simp; done)) | (refine Vw.bool' ?_; first | rfl | (simp; done)) | refine Vw.agg' ?_ | refine Vw.tup' ?_ | refine Vw.clo' ?_ | exact VwO.row _ _ _ | refine VwO.box' ?_ | exact VwO.gone _ | exact VwO.mp _ | exact VwO.mat _ _ _ | refine ⟨⟨_, rfl, ?_⟩, ?_⟩ | refine ⟨?_, ?_⟩ )))
  rintro i ⟨hi, hall⟩
  by_cases hiT : i < T.length
  · have kS := SameT_ac (T.getD i []) c (by have := hr i hiT; omega)
    by_cases he : T.getD i [] = c
    · rw [hyes i hiT he]
      rw [decide_eq_true he] at kS
      (repeat' (first | refine a_seq ?_ | refine a_block ?_ | refine a_skip ?_ | refine a_ret ?_ | refine a_exit ?_ | refine a_region ?_ | refine l_nil ?_ | (apply w_q; (focus (first | exact Q_move (by conv => lhs; whnf) | exact Q_assign (by conv => lhs; whnf) | exact Q_load_ptr rfl rfl rfl KSc.h | exact Q_load_all rfl rfl KAg.h | exact Q_lss rfl rfl | exact Q_ix_nats rfl rfl rfl KSl.h (by omega) | exact Q_ix_ints rfl rfl rfl KSl.h (by omega) | exact Q_ix_ownN rfl rfl rfl rfl KSl.h (by omega) | exact Q_ix_own rfl rfl rfl rfl KSl.h (by omega) | exact Q_ix_rows rfl rfl rfl KSl.h (by omega) | exact Q_ix_pairsN rfl rfl rfl KSl.h (by omega) | exact Q_ix_pairs rfl rfl rfl KSl.h (by omega) | exact Q_ix_ords rfl rfl rfl KSl.h (by omega) | exact Q_ix_ownb rfl rfl rfl rfl KSl.h (by omega) | exact Q_ix_arr rfl rfl rfl KAr.h (by first | decide | omega) | exact Q_ix_arp rfl rfl rfl KAr.h (by first | decide | omega) | exact Q_ld_rpa rfl KAg.h rfl rfl (by first | (dsimp only [List.drop_zero, List.drop_succ_cons, List.take_succ_cons, List.take_zero, List.map, ofD]; done) | exact rfl) | exact Q_ld_rv rfl rfl KSc.h | exact Q_ld_rs rfl rfl KSc.h | exact Q_ld_nats rfl (by omega) KSc.h | exact Q_ld_ints rfl (by omega) KSc.h | exact Q_ld_ownN rfl rfl (by omega) KSc.h | exact Q_ld_own rfl rfl (by omega) KSc.h | exact Q_ld_rows rfl (by omega) KSc.h | exact Q_ld_pair1N rfl (by omega) KSc.h | exact Q_ld_pair2N rfl (by omega) KSc.h | exact Q_ld_pair1 rfl (by omega) KSc.h | exact Q_ld_pair2 rfl (by omega) KSc.h | exact Q_ld_pairN rfl (by omega) KAg.h | exact Q_ld_pair rfl (by omega) KAg.h | exact Q_ld_ord rfl (by omega) KAg.h | exact Q_ld_ownb rfl rfl (by omega) KSc.h | exact Q_len_nats rfl KSl.h | exact Q_len_ints rfl KSl.h | exact Q_len_ownN rfl rfl KSl.h | exact Q_len_own' rfl rfl KSl.h | exact Q_len_rows rfl KSl.h | exact Q_len_pairsN rfl KSl.h | exact Q_len_pairs rfl KSl.h | exact Q_len_ords rfl KSl.h | exact Q_len_nil' rfl KSl.h | exact Q_len_ownp rfl rfl KSl.h)); (focus exact rfl)) | (refine a_cond rfl ?_ ?_ <;> (intro h; (try (have hp := of_decide_eq_true h)); (try (have hp := of_decide_eq_false h)); (try contradiction); (try (exfalso; omega)))) | (((first | apply w_q | apply w_qq); (focus exact Q_len_ownR rfl rfl KSl.h); (focus exact rfl))) | (((first | apply w_q | apply w_qq); (focus exact Q_ix_ownR rfl rfl rfl rfl KSl.h (by omega)); (focus exact rfl))) | (((first | apply w_q | apply w_qq); (focus exact Q_ld_ownRE rfl rfl (by omega) rfl KSc.h); (focus exact rfl))) | (((first | apply w_q | apply w_qq); (focus (refine Q_call (.inl ⟨rfl, rfl⟩) (kS) ?_; ((repeat' (first | exact trivial | exact vwR rfl | exact vwRL rfl | exact Vw.val _ | exact Vw.ro _ | exact Vw.any _ | exact Vw.valro _ | exact Vw.own _ _ rfl | exact Vw.ptr _ _ _ rfl | exact Vw.rpt _ _ | exact Vw.nilro _ | exact Vw.rowro _ _ _ _ rfl (by decide) | exact Vw.rowro2 rfl (by decide) (by with_unfolding_all exact rfl) | refine Vw.agg' ?_ | refine Vw.tup' ?_ | refine Vw.clo' ?_ | refine Vw.boxrpt' rfl (by decide) ?_ | exact Nat.le_of_ble_eq_true rfl | refine ⟨?_, ?_⟩ )); done))); (focus exact rfl))))); (try all_goals (try show retA _ _ _ _ _ _ _))
      all_goals first
        | (exfalso; omega)
        | (exfalso; simp at *; done)
        | (refine ⟨[_], [0], ⟨resV_tmp (by conv => lhs; whnf), trivial⟩, VwOs.mk (by decide) ⟨⟨_, rfl, .row _ _ _⟩, trivial⟩, ?_, rfl⟩; (repeat' (first | exact trivial | exact vwR rfl | exact vwRL rfl | exact Vw.val _ | exact Vw.ro _ | exact Vw.any _ | exact Vw.valro _ | exact Vw.own _ _ rfl | exact Vw.ptr _ _ _ rfl | exact Vw.rpt _ _ | exact Vw.nilro _ | exact Vw.rowro _ _ _ _ rfl (by decide) | exact Vw.rowro2 rfl (by decide) (by with_unfolding_all exact rfl) | refine Vw.agg' ?_ | refine Vw.tup' ?_ | refine Vw.clo' ?_ | refine Vw.boxrpt' rfl (by decide) ?_ | exact Nat.le_of_ble_eq_true rfl | refine ⟨?_, ?_⟩ )); done)
        | (all_goals trace_state); fail
    · rw [decide_eq_false he] at kS
      (repeat' (first | refine a_seq ?_ | refine a_block ?_ | refine a_skip ?_ | refine a_ret ?_ | refine a_exit ?_ | refine a_region ?_ | refine l_nil ?_ | (apply w_q; (focus (first | exact Q_move (by conv => lhs; whnf) | exact Q_assign (by conv => lhs; whnf) | exact Q_load_ptr rfl rfl rfl KSc.h | exact Q_load_all rfl rfl KAg.h | exact Q_lss rfl rfl | exact Q_add rfl rfl (by omega) | exact Q_ix_nats rfl rfl rfl KSl.h (by omega) | exact Q_ix_ints rfl rfl rfl KSl.h (by omega) | exact Q_ix_ownN rfl rfl rfl rfl KSl.h (by omega) | exact Q_ix_own rfl rfl rfl rfl KSl.h (by omega) | exact Q_ix_rows rfl rfl rfl KSl.h (by omega) | exact Q_ix_pairsN rfl rfl rfl KSl.h (by omega) | exact Q_ix_pairs rfl rfl rfl KSl.h (by omega) | exact Q_ix_ords rfl rfl rfl KSl.h (by omega) | exact Q_ix_ownb rfl rfl rfl rfl KSl.h (by omega) | exact Q_ix_arr rfl rfl rfl KAr.h (by first | decide | omega) | exact Q_ix_arp rfl rfl rfl KAr.h (by first | decide | omega) | exact Q_ld_rpa rfl KAg.h rfl rfl (by first | (dsimp only [List.drop_zero, List.drop_succ_cons, List.take_succ_cons, List.take_zero, List.map, ofD]; done) | exact rfl) | exact Q_ld_rv rfl rfl KSc.h | exact Q_ld_rs rfl rfl KSc.h | exact Q_ld_nats rfl (by omega) KSc.h | exact Q_ld_ints rfl (by omega) KSc.h | exact Q_ld_ownN rfl rfl (by omega) KSc.h | exact Q_ld_own rfl rfl (by omega) KSc.h | exact Q_ld_rows rfl (by omega) KSc.h | exact Q_ld_pair1N rfl (by omega) KSc.h | exact Q_ld_pair2N rfl (by omega) KSc.h | exact Q_ld_pair1 rfl (by omega) KSc.h | exact Q_ld_pair2 rfl (by omega) KSc.h | exact Q_ld_pairN rfl (by omega) KAg.h | exact Q_ld_pair rfl (by omega) KAg.h | exact Q_ld_ord rfl (by omega) KAg.h | exact Q_ld_ownb rfl rfl (by omega) KSc.h | exact Q_len_nats rfl KSl.h | exact Q_len_ints rfl KSl.h | exact Q_len_ownN rfl rfl KSl.h | exact Q_len_own' rfl rfl KSl.h | exact Q_len_rows rfl KSl.h | exact Q_len_pairsN rfl KSl.h | exact Q_len_pairs rfl KSl.h | exact Q_len_ords rfl KSl.h | exact Q_len_nil' rfl KSl.h | exact Q_len_ownp rfl rfl KSl.h)); (focus exact rfl)) | (refine a_cond rfl ?_ ?_ <;> (intro h; (try (have hp := of_decide_eq_true h)); (try (have hp := of_decide_eq_false h)); (try contradiction); (try (exfalso; omega)))) | (((first | apply w_q | apply w_qq); (focus exact Q_len_ownR rfl rfl KSl.h); (focus exact rfl))) | (((first | apply w_q | apply w_qq); (focus exact Q_ix_ownR rfl rfl rfl rfl KSl.h (by omega)); (focus exact rfl))) | (((first | apply w_q | apply w_qq); (focus exact Q_ld_ownRE rfl rfl (by omega) rfl KSc.h); (focus exact rfl))) | (((first | apply w_q | apply w_qq); (focus (refine Q_call (.inl ⟨rfl, rfl⟩) (kS) ?_; ((repeat' (first | exact trivial | exact vwR rfl | exact vwRL rfl | exact Vw.val _ | exact Vw.ro _ | exact Vw.any _ | exact Vw.valro _ | exact Vw.own _ _ rfl | exact Vw.ptr _ _ _ rfl | exact Vw.rpt _ _ | exact Vw.nilro _ | exact Vw.rowro _ _ _ _ rfl (by decide) | exact Vw.rowro2 rfl (by decide) (by with_unfolding_all exact rfl) | refine Vw.agg' ?_ | refine Vw.tup' ?_ | refine Vw.clo' ?_ | refine Vw.boxrpt' rfl (by decide) ?_ | exact Nat.le_of_ble_eq_true rfl | refine ⟨?_, ?_⟩ )); done))); (focus exact rfl))))); (try all_goals (try show retA _ _ _ _ _ _ _))
      all_goals first
        | (exfalso; omega)
        | (exfalso; simp at *; done)
        | (try dsimp only [thenA, blockA]
           refine ⟨i + 1, [0], ?_, ?_, ?_, rfl⟩ <;> (try dsimp only)
           · exact ⟨by omega, fun j hj => by
               by_cases e : j = i
               · subst e; exact he
               · exact hall j (by omega)⟩
           · omega
           · (refine St.le_mk rfl (VwOs.mk (by decide) ?_) ?_ <;> (repeat' (first | exact trivial | exact vwR rfl | exact Vw.val _ | exact Vw.ro _ | exact Vw.any _ | exact Vw.own _ _ rfl | exact Vw.ptr _ _ _ rfl | exact Vw.rpt _ _ | exact Vw.valro _ | exact Vw.nilro _ | exact Vw.rowro _ _ _ _ rfl (by decide) | (refine Vw.int' ?_; first | rfl | omega | (simp; done)) | (refine Vw.bool' ?_; first | rfl | (simp; done)) | refine Vw.agg' ?_ | refine Vw.tup' ?_ | refine Vw.clo' ?_ | exact VwO.row _ _ _ | refine VwO.box' ?_ | exact VwO.gone _ | exact VwO.mp _ | exact VwO.mat _ _ _ | refine ⟨⟨_, rfl, ?_⟩, ?_⟩ | refine ⟨?_, ?_⟩ ))))
        | (all_goals trace_state); fail
  · obtain rfl : i = T.length := by omega
    rw [hno hall]
    (repeat' (first | refine a_seq ?_ | refine a_block ?_ | refine a_skip ?_ | refine a_ret ?_ | refine a_exit ?_ | refine a_region ?_ | refine l_nil ?_ | (apply w_q; (focus (first | exact Q_move (by conv => lhs; whnf) | exact Q_assign (by conv => lhs; whnf) | exact Q_lss rfl rfl | exact Q_len_nats rfl KSl.h | exact Q_len_ints rfl KSl.h | exact Q_len_ownN rfl rfl KSl.h | exact Q_len_own' rfl rfl KSl.h | exact Q_len_rows rfl KSl.h | exact Q_len_pairsN rfl KSl.h | exact Q_len_pairs rfl KSl.h | exact Q_len_ords rfl KSl.h | exact Q_len_nil' rfl KSl.h | exact Q_len_ownp rfl rfl KSl.h)); (focus exact rfl)) | (refine a_cond rfl ?_ ?_ <;> (intro h; (try (have hp := of_decide_eq_true h)); (try (have hp := of_decide_eq_false h)); (try contradiction); (try (exfalso; omega)))) | (((first | apply w_q | apply w_qq); (focus exact Q_len_ownR rfl rfl KSl.h); (focus exact rfl))))); (try all_goals (try show retA _ _ _ _ _ _ _))
    all_goals first
      | (exfalso; omega)
      | (refine ⟨[_], [0], ⟨resV_tmp (by conv => lhs; whnf), trivial⟩, VwOs.mk (by decide) ⟨⟨_, rfl, .row _ _ _⟩, trivial⟩, ?_, rfl⟩; (repeat' (first | exact trivial | exact vwR rfl | exact vwRL rfl | exact Vw.val _ | exact Vw.ro _ | exact Vw.any _ | exact Vw.valro _ | exact Vw.own _ _ rfl | exact Vw.ptr _ _ _ rfl | exact Vw.rpt _ _ | exact Vw.nilro _ | exact Vw.rowro _ _ _ _ rfl (by decide) | exact Vw.rowro2 rfl (by decide) (by with_unfolding_all exact rfl) | refine Vw.agg' ?_ | refine Vw.tup' ?_ | refine Vw.clo' ?_ | refine Vw.boxrpt' rfl (by decide) ?_ | exact Nat.le_of_ble_eq_true rfl | refine ⟨?_, ?_⟩ )); done)
      | (all_goals trace_state); fail
theorem lw_lst {n : Nat} {f g : Nat → Nat → Nat} (L : Lt n f g) (hn : n ≤ 40) {c : List Nat} (hc : Cg n f g c) {x y : Nat} (hx : x < n) (hy : y < n) : Lst n f g (RC n c x y) (jnC n f g c (thQ n f g x y)) := by
  have th := th_lst L hn hx hy
  have hj := jnc_lst L hn hc.len th.cg.len
  obtain ⟨u1, u2⟩ := jnc_up L hn hc.len th.cg.len
  refine ⟨hj.cg, fun a b hab => ?_, fun d hd h => ?_⟩
  · rcases hab with ⟨ha, hb, h⟩ | ⟨rfl, rfl⟩
    · exact u1 a ha b hb h
    · exact u2 _ hx _ hy (th.has _ _ (by simp))
  · exact jnc_least L hn hc.len th.cg.len hd (fun a ha b hb e => h a b (.inl ⟨ha, hb, e⟩)) (th.least d hd fun a b hab => by
      rw [List.mem_singleton, Prod.mk.injEq] at hab
      rw [hab.1, hab.2]; exact h x y (.inr ⟨rfl, rfl⟩))
def DnC (n : Nat) (f g : Nat → Nat → Nat) (out : List (List Nat)) (c : List Nat) (x y : Nat) : Prop := c.getD x 0 ≠ c.getD y 0 → (f x y = x ∨ f x y = y) → jnC n f g c (thQ n f g x y) ∈ out
structure RBf (n : Nat) (f g : Nat → Nat → Nat) (i x y : Nat) (out : List (List Nat)) : Prop where
  ap : AP n f g out
  id : List.range n ∈ out
  len : out.length ≤ 40
  il : i ≤ out.length
  old : ∀ i', i' < i → ∀ x', x' < n → ∀ y', y' < x' → DnC n f g out (out.getD i' []) x' y'
  now : ∀ x' y', y' < x' → (x' < x ∨ x' = x ∧ y' < y) → DnC n f g out (out.getD i []) x' y'
namespace RBf
variable {n : Nat} {f g : Nat → Nat → Nat} {i x y : Nat} {out : List (List Nat)}
theorem skip (h : RBf n f g i x y out) (hd : DnC n f g out (out.getD i []) x y) : RBf n f g i x (y + 1) out :=
  ⟨h.ap, h.id, h.len, h.il, h.old, fun x' y' hy hx => by
    by_cases e : x' = x ∧ y' = y
    · rw [e.1, e.2]; exact hd
    · exact h.now x' y' hy (by omega)⟩
theorem add (h : RBf n f g i x y out) (hi : i < out.length) (hc : Cg n f g (jnC n f g (out.getD i []) (thQ n f g x y))) (hl : (addC out (jnC n f g (out.getD i []) (thQ n f g x y))).length ≤ 40) :
    RBf n f g i x (y + 1) (addC out (jnC n f g (out.getD i []) (thQ n f g x y))) := by
  generalize hw : jnC n f g (out.getD i []) (thQ n f g x y) = w at *
  obtain ⟨t, e⟩ := addC_pre out w
  have hg : ∀ i', i' < out.length → (addC out w).getD i' [] = out.getD i' [] := fun i' h' => by rw [e]; exact pre_get h'
  have hs : ∀ c, c ∈ out → c ∈ addC out w := fun c h => by rw [e]; exact List.mem_append_left _ h
  have hil := h.il
  refine ⟨h.ap.add hc, hs _ h.id, hl, by rw [e, List.length_append]; omega, fun i' h' x' hx' y' hy' => ?_, fun x' y' hy' hx' => ?_⟩
  · rw [hg i' (by omega)]
    exact fun a b => hs _ (h.old i' h' x' hx' y' hy' a b)
  · rw [hg i hi]
    by_cases q : x' = x ∧ y' = y
    · rw [q.1, q.2]; intro _ _; rw [hw]; exact addC_mem out w
    · exact fun a b => hs _ (h.now x' y' hy' (by omega) a b)
theorem row (h : RBf n f g i x x out) : RBf n f g i (x + 1) 0 out := ⟨h.ap, h.id, h.len, h.il, h.old, fun x' y' hy hx => h.now x' y' hy (by omega)⟩
theorem next (h : RBf n f g i n 0 out) (hi : i < out.length) : RBf n f g (i + 1) 0 0 out := ⟨h.ap, h.id, h.len, hi, fun i' h' x' hx' y' hy' => by
    by_cases e : i' = i
    · rw [e]; exact h.now x' y' hy' (by omega)
    · exact h.old i' (by omega) x' hx' y' hy', fun x' y' hy hx => by omega⟩
theorem full (L : Lt n f g) (hn : n ≤ 40) (h : RBf n f g out.length 0 0 out) (c : List Nat) : c ∈ out ↔ Cg n f g c :=
  ⟨h.ap.cg c, fun hc => bfs_full L hn h.id h.ap.cg (fun d hd x hx y hy hne hcm => by
    obtain ⟨i, hi, e⟩ := List.mem_iff_getElem.1 hd
    have := h.old i hi x hx y hy
    rw [List.getD_eq_getElem?_getD, List.getElem?_eq_getElem hi, Option.getD_some, e] at this
    exact ⟨_, this hne hcm, lw_lst L hn (h.ap.cg d hd) hx (by omega)⟩) hc⟩
end RBf
end Go.Proofs.Ytdbngpkbamhbeaa
