import Derived.Test.YtfjpgficpdbelaaXk
import Derived.Test.YtfjpgficpdbelaaFr
set_option linter.unusedSimpArgs false
set_option linter.unusedVariables false
set_option linter.unusedSectionVars false
set_option maxRecDepth 20000
namespace Go.Proofs.Ytfjpgficpdbelaa
attribute [local irreducible] QOp aL aC qL
theorem or_addI {s k : Nat} (h : s.testBit k = false) (hs : s < 2 ^ 20) : s + 2 ^ k = s ||| 2 ^ k := by
  have e := or_add_and 20 s (2 ^ k) hs
  have z : s &&& 2 ^ k = 0 := by
    apply Nat.eq_of_testBit_eq
    intro j
    rw [Nat.testBit_and, Nat.testBit_two_pow, Nat.zero_testBit]
    by_cases hj : k = j
    · subst hj; rw [h]; rfl
    · rw [decide_eq_false hj, Bool.and_false]
  omega
theorem mod_bit {x k i : Nat} : (x % 2 ^ k).testBit i = (decide (i < k) && x.testBit i) := Nat.testBit_mod_two_pow x k i
theorem part_s {c t k n : Nat} (hc : c < 2 ^ n) (hn : n ≤ 10) (ht : t < 2 ^ n) : c ||| t % 2 ^ (k + 1) = if (t.testBit k && !(c ||| t % 2 ^ k).testBit k) = true then (c ||| t % 2 ^ k) + 2 ^ k else c ||| t % 2 ^ k := by
  have hbig : c ||| t % 2 ^ k < 2 ^ 20 := Nat.lt_of_lt_of_le (Nat.or_lt_two_pow hc (Nat.lt_of_le_of_lt (Nat.mod_le _ _) ht)) (Nat.pow_le_pow_right (by decide) (by omega))
  have hk : (c ||| t % 2 ^ k).testBit k = c.testBit k := by rw [Nat.testBit_or, mod_bit, decide_eq_false (Nat.lt_irrefl k), Bool.false_and, Bool.or_false]
  by_cases h : (t.testBit k && !(c ||| t % 2 ^ k).testBit k) = true
  · rw [if_pos h]
    rw [Bool.and_eq_true, Bool.not_eq_true'] at h
    rw [or_addI h.2 hbig]
    refine Nat.eq_of_testBit_eq fun i => ?_
    rw [Nat.testBit_or, Nat.testBit_or, Nat.testBit_or, mod_bit, mod_bit, Nat.testBit_two_pow]
    by_cases e : k = i
    · subst e; simp [h.1]
    · have : decide (i < k + 1) = decide (i < k) := by rw [decide_eq_decide]; omega
      rw [this, decide_eq_false e, Bool.or_false]
  · rw [if_neg h]
    rw [hk] at h
    refine Nat.eq_of_testBit_eq fun i => ?_
    rw [Nat.testBit_or, Nat.testBit_or, mod_bit, mod_bit]
    by_cases e : k = i
    · subst e
      cases h1 : t.testBit k <;> cases h2 : c.testBit k <;> simp_all
    · have : decide (i < k + 1) = decide (i < k) := by rw [decide_eq_decide]; omega
      rw [this]
def cloT (n : Nat) (l : List (Nat × Nat)) (k : Nat) : List Nat := (List.range k).map (clo n l)
theorem cloT_s (n : Nat) (l : List (Nat × Nat)) (k : Nat) : cloT n l (k + 1) = cloT n l k ++ [clo n l k] := by unfold cloT; rw [List.range_succ, List.map_append]; rfl
theorem cloT_len (n : Nat) (l : List (Nat × Nat)) (k : Nat) : (cloT n l k).length = k := by simp [cloT]
theorem cloT_get {n : Nat} {l : List (Nat × Nat)} {k i : Nat} (h : i < k) : (cloT n l k).getD i 0 = clo n l i := by simp [cloT, List.getD_eq_getElem?_getD, h]
set_option maxRecDepth 20000 in
set_option maxHeartbeats 8000000 in
theorem Closes_ac (n : Nat) (l : List (Nat × Nat)) (hR : Rls n l) : AC Try.prog 23 [.val (.int .i64 n), pairs (pn l)] [] (.own 0) [.row 3 1 (intc (nl (cloT n l (2 ^ n))))] := by
  have hn := hR.hn
  have hpn := p2x hn
  have hlen := hR.len
  have kB := fun i (hi : i ≤ 10) => Bit_ac i (by omega)
  have kBn := kB n hn
  have hts := cloT_s n l
  have htl := cloT_len n l
  have hcs := fun s (hs : s < 2 ^ n) => clo_is hR.lt hs
  have hcl := clo_lt n l
  have hlt : ∀ k, k < l.length → (l.getD k (0, 0)).1 < 2 ^ n ∧ (l.getD k (0, 0)).2 < 2 ^ n := fun k hk => hR.lt _ (by rw [List.getD_eq_getElem?_getD, List.getElem?_eq_getElem hk]; exact List.getElem_mem hk)
  have hmm : ∀ k, k < l.length → l.getD k (0, 0) ∈ l := fun k hk => by rw [List.getD_eq_getElem?_getD, List.getElem?_eq_getElem hk]; exact List.getElem_mem hk
  have hnl := pn_len l
  have kO := fun c k (hc : c < 2 ^ n) (hk : k < l.length) => Obeys_ac c (l.getD k (0, 0)).1 (l.getD k (0, 0)).2 (by omega) (by have := hlt k hk; omega) (by have := hlt k hk; omega)
  have kI := fun c i (hc : c < 2 ^ n) (hi : i < n) => In_ac c i (by omega) (by omega)
  refine AC.mk (n := 59) (fn := Try.f23) Try.func23 (by kernel_rfl) rfl rfl rfl rfl (fun cx => ?_); dsimp only [argv, Nat.reduceAdd]
  (repeat' (first | refine a_seq ?_ | refine a_block ?_ | refine a_skip ?_ | refine a_ret ?_ | refine a_exit ?_ | refine a_region ?_ | refine l_nil ?_ | (apply w_q; (focus (first | exact Q_assign (by conv => lhs; whnf))); (focus exact rfl)) | (refine a_cond rfl ?_ ?_ <;> (intro h; (try (have hp := of_decide_eq_true h)); (try (have hp := of_decide_eq_false h)); (try contradiction); (try (exfalso; omega)))))); (try all_goals (try show retA _ _ _ _ _ _ _))
  refine w_nilownC 5 3 1 rfl (by first|(dsimp only[obA,obB,obD,obE,obF,obG,obI,List.map,AO.sh,AV.sh,AV.shl,Nat.reduceAdd];done)|exact rfl) rfl ?_
  refine w_loop (X := Nat) [0, 1] (by simp only [keepv, getv_cons, Nat.reduceEqDiff, ↓reduceIte]; exact rfl) (fun k => [(5, .own 0), (6, .val (.int .i64 (k : Nat)))]) (fun k => [.row 3 1 (intc (nl (cloT n l k)))]) (fun k => k ≤ 2 ^ n) (fun k => 2 ^ n - k) (0) ([0]) ?_ ?_ rfl ?_ <;> (try dsimp only [List.cons_append, List.nil_append])
  · exact Nat.zero_le _
  · (refine St.le_mk rfl (VwOs.mk (by decide) ?_) ?_ <;> (repeat' (first | exact trivial | exact vwR rfl | exact Vw.val _ | exact Vw.ro _ | exact Vw.any _ | exact Vw.own _ _ rfl | exact Vw.ptr _ _ _ rfl | exact Vw.rpt _ _ | exact Vw.valro _ | exact Vw.nilro _ | exact Vw.rowro _ _ _ _ rfl (by decide) | (refine Vw.int' ?_; first | rfl | omega | (simp; done)) | (refine Vw.bool' ?_; first | rfl | (simp; done)) | refine Vw.agg' ?_ | refine Vw.tup' ?_ | refine Vw.clo' ?_ | exact VwO.row _ _ _ | refine VwO.box' ?_ | exact VwO.gone _ | exact VwO.mp _ | exact VwO.mat _ _ _ | refine ⟨⟨_, rfl, ?_⟩, ?_⟩ | refine ⟨?_, ?_⟩ )))
  intro s hsl
  by_cases hs : s < 2 ^ n
  · have hc := hcs s hs
    have hts := hts s
    have htl := htl s
    have hC := hcl s
    generalize cloT n l s = T at *
    (repeat' (first | refine a_seq ?_ | refine a_block ?_ | refine a_skip ?_ | refine a_ret ?_ | refine a_exit ?_ | refine a_region ?_ | refine l_nil ?_ | (apply w_q; (focus (first | exact Q_move (by conv => lhs; whnf) | exact Q_assign (by conv => lhs; whnf) | exact Q_lss rfl rfl)); (focus exact rfl)) | (refine a_cond rfl ?_ ?_ <;> (intro h; (try (have hp := of_decide_eq_true h)); (try (have hp := of_decide_eq_false h)); (try contradiction); (try (exfalso; omega)))) | (((first | apply w_q | apply w_qq); (focus (refine Q_call (.inl ⟨rfl, rfl⟩) (kBn) ?_; ((repeat' (first | exact trivial | exact vwR rfl | exact vwRL rfl | exact Vw.val _ | exact Vw.ro _ | exact Vw.any _ | exact Vw.valro _ | exact Vw.own _ _ rfl | exact Vw.ptr _ _ _ rfl | exact Vw.rpt _ _ | exact Vw.nilro _ | exact Vw.rowro _ _ _ _ rfl (by decide) | exact Vw.rowro2 rfl (by decide) (by with_unfolding_all exact rfl) | refine Vw.agg' ?_ | refine Vw.tup' ?_ | refine Vw.clo' ?_ | refine Vw.boxrpt' rfl (by decide) ?_ | exact Nat.le_of_ble_eq_true rfl | refine ⟨?_, ?_⟩ )); done))); (focus exact rfl))))); (try all_goals (try show retA _ _ _ _ _ _ _))
    all_goals first
      | (exfalso; omega)
      | skip
    refine w_loop (X := Nat × Bool) [0, 1, 5, 6] (by simp only [keepv, getv_cons, Nat.reduceEqDiff, ↓reduceIte]; exact rfl) (fun p => [(7, .val (.int .i64 (p.1 : Nat))), (8, .val (.bool p.2))]) (fun _ => [.row 3 1 (intc (nl T))]) (fun p => sub s p.1 = true ∧ sub p.1 (clo n l s) = true ∧ (p.2 = false → oba l p.1 = true)) (fun p => 2 * (2 ^ n - p.1) + (if p.2 = true then 1 else 0)) ((s, true)) ([0]) ?_ ?_ rfl ?_ <;> (try dsimp only [List.cons_append, List.nil_append])
    · exact ⟨sub_refl s, hc.sup, fun h => by cases h⟩
    · (refine St.le_mk rfl (VwOs.mk (by decide) ?_) ?_ <;> (repeat' (first | exact trivial | exact vwR rfl | exact Vw.val _ | exact Vw.ro _ | exact Vw.any _ | exact Vw.own _ _ rfl | exact Vw.ptr _ _ _ rfl | exact Vw.rpt _ _ | exact Vw.valro _ | exact Vw.nilro _ | exact Vw.rowro _ _ _ _ rfl (by decide) | (refine Vw.int' ?_; first | rfl | omega | (simp; done)) | (refine Vw.bool' ?_; first | rfl | (simp; done)) | refine Vw.agg' ?_ | refine Vw.tup' ?_ | refine Vw.clo' ?_ | exact VwO.row _ _ _ | refine VwO.box' ?_ | exact VwO.gone _ | exact VwO.mp _ | exact VwO.mat _ _ _ | refine ⟨⟨_, rfl, ?_⟩, ?_⟩ | refine ⟨?_, ?_⟩ )))
    rintro ⟨x, more⟩ ⟨h1, h2, h3⟩
    dsimp only at h1 h2 h3 ⊢
    cases more with
    | false =>
      have e : x = clo n l s := IsCl.uniq ⟨h1, h3 rfl, fun t ht1 ht2 => sub_trans h2 (hc.least t ht1 ht2)⟩ hc
      rw [e]
      generalize clo n l s = C at *
      (repeat' (first | refine a_seq ?_ | refine a_block ?_ | refine a_skip ?_ | refine a_ret ?_ | refine a_exit ?_ | refine a_region ?_ | refine l_nil ?_ | (apply w_q; (focus (first | exact Q_move (by conv => lhs; whnf) | exact Q_assign (by conv => lhs; whnf) | exact Q_add rfl rfl (by omega))); (focus exact rfl)) | (refine a_cond rfl ?_ ?_ <;> (intro h; (try (have hp := of_decide_eq_true h)); (try (have hp := of_decide_eq_false h)); (try contradiction); (try (exfalso; omega)))) | refine w_ap_nats rfl rfl rfl rfl KSl.h KMk.h (by simp; omega) (by first|(dsimp only[obA,obB,obD,obE,obF,obG,obI,List.map,AO.sh,AV.sh,AV.shl,Nat.reduceAdd];done)|exact rfl) (by first|(dsimp only[obA,obB,obD,obE,obF,obG,obI,List.map,AO.sh,AV.sh,AV.shl,Nat.reduceAdd];done)|exact rfl) rfl ?_ | refine w_ap_ints rfl rfl rfl rfl KSl.h KMk.h (by simp; omega) (by first|(dsimp only[obA,obB,obD,obE,obF,obG,obI,List.map,AO.sh,AV.sh,AV.shl,Nat.reduceAdd];done)|exact rfl) (by first|(dsimp only[obA,obB,obD,obE,obF,obG,obI,List.map,AO.sh,AV.sh,AV.shl,Nat.reduceAdd];done)|exact rfl) rfl ?_ | refine w_lit_nat rfl KSl.h KMk.h (by first|(dsimp only[obA,obB,obD,obE,obF,obG,obI,List.map,AO.sh,AV.sh,AV.shl,Nat.reduceAdd];done)|exact rfl) (by first|(dsimp only[obA,obB,obD,obE,obF,obG,obI,List.map,AO.sh,AV.sh,AV.shl,Nat.reduceAdd];done)|exact rfl) rfl ?_ | refine w_lit_int rfl KSl.h KMk.h (by first|(dsimp only[obA,obB,obD,obE,obF,obG,obI,List.map,AO.sh,AV.sh,AV.shl,Nat.reduceAdd];done)|exact rfl) (by first|(dsimp only[obA,obB,obD,obE,obF,obG,obI,List.map,AO.sh,AV.sh,AV.shl,Nat.reduceAdd];done)|exact rfl) rfl ?_ | refine w_lit_ord rfl KSl.h KMk.h (by first|(dsimp only[obA,obB,obD,obE,obF,obG,obI,List.map,AO.sh,AV.sh,AV.shl,Nat.reduceAdd];done)|exact rfl) (by first|(dsimp only[obA,obB,obD,obE,obF,obG,obI,List.map,AO.sh,AV.sh,AV.shl,Nat.reduceAdd];done)|exact rfl) rfl ?_ | refine w_lit_r1 rfl KSl.h KMk.h (by first|(dsimp only[obA,obB,obD,obE,obF,obG,obI,List.map,AO.sh,AV.sh,AV.shl,Nat.reduceAdd];done)|exact rfl) (by first|(dsimp only[obA,obB,obD,obE,obF,obG,obI,List.map,AO.sh,AV.sh,AV.shl,Nat.reduceAdd];done)|exact rfl) rfl ?_ | refine w_lit_r1o rfl rfl KSl.h KMk.h (by first|(dsimp only[obA,obB,obD,obE,obF,obG,obI,List.map,AO.sh,AV.sh,AV.shl,Nat.reduceAdd];done)|exact rfl) (by first|(dsimp only[obA,obB,obD,obE,obF,obG,obI,List.map,AO.sh,AV.sh,AV.shl,Nat.reduceAdd];done)|exact rfl) (by first|(dsimp only[obA,obB,obD,obE,obF,obG,obI,List.map,AO.sh,AV.sh,AV.shl,Nat.reduceAdd];done)|exact rfl) rfl ?_ | refine w_lit_r2 rfl rfl KSl.h KMk.h (by first|(dsimp only[obA,obB,obD,obE,obF,obG,obI,List.map,AO.sh,AV.sh,AV.shl,Nat.reduceAdd];done)|exact rfl) (by first|(dsimp only[obA,obB,obD,obE,obF,obG,obI,List.map,AO.sh,AV.sh,AV.shl,Nat.reduceAdd];done)|exact rfl) rfl ?_ | refine w_lit_r3 rfl rfl rfl KSl.h KMk.h (by first|(dsimp only[obA,obB,obD,obE,obF,obG,obI,List.map,AO.sh,AV.sh,AV.shl,Nat.reduceAdd];done)|exact rfl) (by first|(dsimp only[obA,obB,obD,obE,obF,obG,obI,List.map,AO.sh,AV.sh,AV.shl,Nat.reduceAdd];done)|exact rfl) rfl ?_ | refine w_lit_r4 rfl rfl rfl rfl KSl.h KMk.h (by first|(dsimp only[obA,obB,obD,obE,obF,obG,obI,List.map,AO.sh,AV.sh,AV.shl,Nat.reduceAdd];done)|exact rfl) (by first|(dsimp only[obA,obB,obD,obE,obF,obG,obI,List.map,AO.sh,AV.sh,AV.shl,Nat.reduceAdd];done)|exact rfl) rfl ?_ | refine w_ap_rows rfl rfl (by first | exact .inl rfl | exact .inr (.inl ⟨_, _, rfl, rfl⟩) | exact .inr (.inr ⟨rfl, rfl⟩)) KSl.h KMk.h (by simp; omega) (by first|(dsimp only[obA,obB,obD,obE,obF,obG,obI,List.map,AO.sh,AV.sh,AV.shl,Nat.reduceAdd];done)|exact rfl) (by first|(dsimp only[obA,obB,obD,obE,obF,obG,obI,List.map,AO.sh,AV.sh,AV.shl,Nat.reduceAdd];done)|exact rfl) rfl ?_ | refine w_lit_i2 rfl rfl KSl.h KMk.h (by first|(dsimp only[obA,obB,obD,obE,obF,obG,obI,List.map,AO.sh,AV.sh,AV.shl,Nat.reduceAdd];done)|exact rfl) (by first|(dsimp only[obA,obB,obD,obE,obF,obG,obI,List.map,AO.sh,AV.sh,AV.shl,Nat.reduceAdd];done)|exact rfl) rfl ?_ | refine w_lit_i3 rfl rfl rfl KSl.h KMk.h (by first|(dsimp only[obA,obB,obD,obE,obF,obG,obI,List.map,AO.sh,AV.sh,AV.shl,Nat.reduceAdd];done)|exact rfl) (by first|(dsimp only[obA,obB,obD,obE,obF,obG,obI,List.map,AO.sh,AV.sh,AV.shl,Nat.reduceAdd];done)|exact rfl) rfl ?_ | refine w_lit_i4 rfl rfl rfl rfl KSl.h KMk.h (by first|(dsimp only[obA,obB,obD,obE,obF,obG,obI,List.map,AO.sh,AV.sh,AV.shl,Nat.reduceAdd];done)|exact rfl) (by first|(dsimp only[obA,obB,obD,obE,obF,obG,obI,List.map,AO.sh,AV.sh,AV.shl,Nat.reduceAdd];done)|exact rfl) rfl ?_ | refine w_lit_ord2 rfl rfl KSl.h KMk.h (by first|(dsimp only[obA,obB,obD,obE,obF,obG,obI,List.map,AO.sh,AV.sh,AV.shl,Nat.reduceAdd];done)|exact rfl) (by first|(dsimp only[obA,obB,obD,obE,obF,obG,obI,List.map,AO.sh,AV.sh,AV.shl,Nat.reduceAdd];done)|exact rfl) rfl ?_ | refine w_lit_p2 rfl rfl KSl.h KMk.h (by first|(dsimp only[obA,obB,obD,obE,obF,obG,obI,List.map,AO.sh,AV.sh,AV.shl,Nat.reduceAdd];done)|exact rfl) (by first|(dsimp only[obA,obB,obD,obE,obF,obG,obI,List.map,AO.sh,AV.sh,AV.shl,Nat.reduceAdd];done)|exact rfl) rfl ?_ | refine w_lit_pair rfl KSl.h KMk.h (by first|(dsimp only[obA,obB,obD,obE,obF,obG,obI,List.map,AO.sh,AV.sh,AV.shl,Nat.reduceAdd];done)|exact rfl) (by first|(dsimp only[obA,obB,obD,obE,obF,obG,obI,List.map,AO.sh,AV.sh,AV.shl,Nat.reduceAdd];done)|exact rfl) rfl ?_ | refine w_ap_pairs rfl rfl rfl rfl KSl.h KMk.h (by simp; omega) (by first|(dsimp only[obA,obB,obD,obE,obF,obG,obI,List.map,AO.sh,AV.sh,AV.shl,Nat.reduceAdd];done)|exact rfl) (by first|(dsimp only[obA,obB,obD,obE,obF,obG,obI,List.map,AO.sh,AV.sh,AV.shl,Nat.reduceAdd];done)|exact rfl) rfl ?_)); (try all_goals (try show retA _ _ _ _ _ _ _))
      all_goals first
        | (exfalso; omega)
        | (try dsimp only [thenA, blockA]
           refine ⟨s + 1, [2], ?_, ?_, ?_, rfl⟩ <;> (try dsimp only)
           · omega
           · omega
           · rw [hts]
             (refine St.le_mk rfl (VwOs.mk (by decide) ?_) ?_ <;> (repeat' (first | exact trivial | exact vwR rfl | exact Vw.val _ | exact Vw.ro _ | exact Vw.any _ | exact Vw.own _ _ rfl | exact Vw.ptr _ _ _ rfl | exact Vw.rpt _ _ | exact Vw.valro _ | exact Vw.nilro _ | exact Vw.rowro _ _ _ _ rfl (by decide) | (refine Vw.int' ?_; first | rfl | omega | (simp; done)) | (refine Vw.bool' ?_; first | rfl | (simp; done)) | refine Vw.agg' ?_ | refine Vw.tup' ?_ | refine Vw.clo' ?_ | exact VwO.row _ _ _ | refine VwO.box' ?_ | exact VwO.gone _ | exact VwO.mp _ | exact VwO.mat _ _ _ | refine ⟨⟨_, rfl, ?_⟩, ?_⟩ | refine ⟨?_, ?_⟩ ))))
        | (all_goals trace_state); fail
    | true =>
      have hxl := sub_le h2
      (repeat' (first | refine a_seq ?_ | refine a_block ?_ | refine a_skip ?_ | refine a_ret ?_ | refine a_exit ?_ | refine a_region ?_ | refine l_nil ?_ | (apply w_q; (focus (first | exact Q_move (by conv => lhs; whnf) | exact Q_assign (by conv => lhs; whnf))); (focus exact rfl)) | (refine a_cond rfl ?_ ?_ <;> (intro h; (try (have hp := of_decide_eq_true h)); (try (have hp := of_decide_eq_false h)); (try contradiction); (try (exfalso; omega)))))); (try all_goals (try show retA _ _ _ _ _ _ _))
      all_goals first
        | (exfalso; omega)
        | skip
      refine w_loop (X := Nat × Nat × Bool) [0, 1, 5, 6] (by simp only [keepv, getv_cons, Nat.reduceEqDiff, ↓reduceIte]; exact rfl) (fun p => [(9, .val (.int .i64 (p.1 : Nat))), (7, .val (.int .i64 (p.2.1 : Nat))), (8, .val (.bool p.2.2))]) (fun _ => [.row 3 1 (intc (nl T))]) (fun p => p.1 ≤ l.length ∧ sub s p.2.1 = true ∧ sub p.2.1 (clo n l s) = true ∧ x ≤ p.2.1 ∧ (p.2.2 = true → x < p.2.1) ∧ (p.2.2 = false → p.2.1 = x ∧ ∀ j, j < p.1 → obl x (l.getD j (0, 0)) = true)) (fun p => l.length - p.1) ((0, x, false)) ([0]) ?_ ?_ rfl ?_ <;> (try dsimp only [List.cons_append, List.nil_append])
      · exact ⟨Nat.zero_le _, h1, h2, Nat.le_refl _, fun h => by (cases h), fun _ => ⟨rfl, fun j h => by omega⟩⟩
      · (refine St.le_mk rfl (VwOs.mk (by decide) ?_) ?_ <;> (repeat' (first | exact trivial | exact vwR rfl | exact Vw.val _ | exact Vw.ro _ | exact Vw.any _ | exact Vw.own _ _ rfl | exact Vw.ptr _ _ _ rfl | exact Vw.rpt _ _ | exact Vw.valro _ | exact Vw.nilro _ | exact Vw.rowro _ _ _ _ rfl (by decide) | (refine Vw.int' ?_; first | rfl | omega | (simp; done)) | (refine Vw.bool' ?_; first | rfl | (simp; done)) | refine Vw.agg' ?_ | refine Vw.tup' ?_ | refine Vw.clo' ?_ | exact VwO.row _ _ _ | refine VwO.box' ?_ | exact VwO.gone _ | exact VwO.mp _ | exact VwO.mat _ _ _ | refine ⟨⟨_, rfl, ?_⟩, ?_⟩ | refine ⟨?_, ?_⟩ )))
      rintro ⟨k, y, m⟩ ⟨hk, g1, g2, g3, g4, g5⟩
      dsimp only at hk g1 g2 g3 g4 g5 ⊢
      have hyl := sub_le g2
      by_cases hkl : k < l.length
      · have hr := hlt k hkl
        have hst := oba_step hc (hmm k hkl) g2
        have hob : obl y (l.getD k (0, 0)) = (!sub (l.getD k (0, 0)).1 y || sub (l.getD k (0, 0)).2 y) := rfl
        have k1 := kO y k (by omega) hkl
        change AC _ _ _ _ (.val (.bool (obl y (l.getD k (0, 0))))) _ at k1
        cases hbo : obl y (l.getD k (0, 0)) with
        | false =>
          rw [hbo] at k1 hob
          have hfire : sub (l.getD k (0, 0)).1 y = true ∧ sub (l.getD k (0, 0)).2 y = false := (by decide : ∀ u v : Bool, false = (!u || v) → u = true ∧ v = false) _ _ hob
          have hst := hst hfire.1
          have hyy : y < y ||| (l.getD k (0, 0)).2 := by
            rcases Nat.lt_or_ge y (y ||| (l.getD k (0, 0)).2) with h | h
            · exact h
            · have e : y ||| (l.getD k (0, 0)).2 = y := Nat.le_antisymm h Nat.left_le_or
              have h4 := sub_orr y (l.getD k (0, 0)).2
              rw [e, hfire.2] at h4; cases h4
          have hs2 : sub s (y ||| (l.getD k (0, 0)).2) = true := sub_trans g1 (sub_orl _ _)
          have hyb := sub_le hst
          have hps := fun i => part_s (k := i) (show y < 2 ^ n by omega) hn hr.2
          have hpb : ∀ i, y ||| (l.getD k (0, 0)).2 % 2 ^ i < 2 ^ n := fun i => Nat.or_lt_two_pow (by omega) (Nat.lt_of_le_of_lt (Nat.mod_le _ _) hr.2)
          have hpe : (l.getD k (0, 0)).2 % 2 ^ n = (l.getD k (0, 0)).2 := Nat.mod_eq_of_lt hr.2
          have kT := fun i (hi : i < n) => kI (l.getD k (0, 0)).2 i hr.2 hi
          have kY := fun i (hi : i < n) => kI (y ||| (l.getD k (0, 0)).2 % 2 ^ i) i (hpb i) hi
          (repeat' (first | refine a_seq ?_ | refine a_block ?_ | refine a_skip ?_ | refine a_ret ?_ | refine a_exit ?_ | refine a_region ?_ | refine l_nil ?_ | (apply w_q; (focus (first | exact Q_move (by conv => lhs; whnf) | exact Q_assign (by conv => lhs; whnf) | exact Q_load_ptr rfl rfl rfl KSc.h | exact Q_load_all rfl rfl KAg.h | exact Q_lss rfl rfl | exact Q_ix_nats rfl rfl rfl KSl.h (by omega) | exact Q_ix_ints rfl rfl rfl KSl.h (by omega) | exact Q_ix_ownN rfl rfl rfl rfl KSl.h (by omega) | exact Q_ix_own rfl rfl rfl rfl KSl.h (by omega) | exact Q_ix_rows rfl rfl rfl KSl.h (by omega) | exact Q_ix_pairsN rfl rfl rfl KSl.h (by omega) | exact Q_ix_pairs rfl rfl rfl KSl.h (by omega) | exact Q_ix_ords rfl rfl rfl KSl.h (by omega) | exact Q_ix_ownb rfl rfl rfl rfl KSl.h (by omega) | exact Q_ix_arr rfl rfl rfl KAr.h (by first | decide | omega) | exact Q_ix_arp rfl rfl rfl KAr.h (by first | decide | omega) | exact Q_ld_rpa rfl KAg.h rfl rfl (by first | (dsimp only [List.drop_zero, List.drop_succ_cons, List.take_succ_cons, List.take_zero, List.map, ofD]; done) | exact rfl) | exact Q_ld_rv rfl rfl KSc.h | exact Q_ld_rs rfl rfl KSc.h | exact Q_ld_nats rfl (by omega) KSc.h | exact Q_ld_ints rfl (by omega) KSc.h | exact Q_ld_ownN rfl rfl (by omega) KSc.h | exact Q_ld_own rfl rfl (by omega) KSc.h | exact Q_ld_rows rfl (by omega) KSc.h | exact Q_ld_pair1N rfl (by omega) KSc.h | exact Q_ld_pair2N rfl (by omega) KSc.h | exact Q_ld_pair1 rfl (by omega) KSc.h | exact Q_ld_pair2 rfl (by omega) KSc.h | exact Q_ld_pairN rfl (by omega) KAg.h | exact Q_ld_pair rfl (by omega) KAg.h | exact Q_ld_ord rfl (by omega) KAg.h | exact Q_ld_ownb rfl rfl (by omega) KSc.h | exact Q_len_nats rfl KSl.h | exact Q_len_ints rfl KSl.h | exact Q_len_ownN rfl rfl KSl.h | exact Q_len_own' rfl rfl KSl.h | exact Q_len_rows rfl KSl.h | exact Q_len_pairsN rfl KSl.h | exact Q_len_pairs rfl KSl.h | exact Q_len_ords rfl KSl.h | exact Q_len_nil' rfl KSl.h | exact Q_len_ownp rfl rfl KSl.h | exact Q_not rfl)); (focus exact rfl)) | (refine a_cond rfl ?_ ?_ <;> (intro h; (try (have hp := of_decide_eq_true h)); (try (have hp := of_decide_eq_false h)); (try contradiction); (try (exfalso; omega)))) | (((first | apply w_q | apply w_qq); (focus exact Q_ld_pairN rfl (by omega) KAg.h); (focus exact rfl))) | (((first | apply w_q | apply w_qq); (focus (refine Q_call (.inl ⟨rfl, rfl⟩) (k1) ?_; ((repeat' (first | exact trivial | exact vwR rfl | exact vwRL rfl | exact Vw.val _ | exact Vw.ro _ | exact Vw.any _ | exact Vw.valro _ | exact Vw.own _ _ rfl | exact Vw.ptr _ _ _ rfl | exact Vw.rpt _ _ | exact Vw.nilro _ | exact Vw.rowro _ _ _ _ rfl (by decide) | exact Vw.rowro2 rfl (by decide) (by with_unfolding_all exact rfl) | refine Vw.agg' ?_ | refine Vw.tup' ?_ | refine Vw.clo' ?_ | refine Vw.boxrpt' rfl (by decide) ?_ | exact Nat.le_of_ble_eq_true rfl | refine ⟨?_, ?_⟩ )); done))); (focus exact rfl))))); (try all_goals (try show retA _ _ _ _ _ _ _))
          all_goals first
            | (exfalso; omega)
            | skip
          refine w_loop (X := Nat) [0, 1, 5, 6, 9] (by simp only [keepv, getv_cons, Nat.reduceEqDiff, ↓reduceIte]; exact rfl) (fun i => [(7, .val (.int .i64 ((y ||| (l.getD k (0, 0)).2 % 2 ^ i : Nat) : Int))), (10, .val (.int .i64 (i : Nat)))]) (fun _ => [.row 3 1 (intc (nl T))]) (fun i => i ≤ n) (fun i => n - i) (0) ([0]) ?_ ?_ rfl ?_ <;> (try dsimp only [List.cons_append, List.nil_append])
          · exact Nat.zero_le _
          · rw [show y ||| (l.getD k (0, 0)).2 % 2 ^ 0 = y by rw [Nat.pow_zero, Nat.mod_one, Nat.or_zero]]
            (refine St.le_mk rfl (VwOs.mk (by decide) ?_) ?_ <;> (repeat' (first | exact trivial | exact vwR rfl | exact Vw.val _ | exact Vw.ro _ | exact Vw.any _ | exact Vw.own _ _ rfl | exact Vw.ptr _ _ _ rfl | exact Vw.rpt _ _ | exact Vw.valro _ | exact Vw.nilro _ | exact Vw.rowro _ _ _ _ rfl (by decide) | (refine Vw.int' ?_; first | rfl | omega | (simp; done)) | (refine Vw.bool' ?_; first | rfl | (simp; done)) | refine Vw.agg' ?_ | refine Vw.tup' ?_ | refine Vw.clo' ?_ | exact VwO.row _ _ _ | refine VwO.box' ?_ | exact VwO.gone _ | exact VwO.mp _ | exact VwO.mat _ _ _ | refine ⟨⟨_, rfl, ?_⟩, ?_⟩ | refine ⟨?_, ?_⟩ )))
          intro i hi
          by_cases hin : i < n
          · have hps := hps i
            have hpb := hpb i
            have kT := kT i hin
            have kY := kY i hin
            have kBi := kB i (by omega)
            have hpi : 2 ^ i ≤ 512 := Nat.le_trans (Nat.pow_le_pow_right (by decide) (by omega)) (show 2 ^ 9 ≤ 512 by decide)
            generalize (l.getD k (0, 0)).2.testBit i = u at *
            generalize (y ||| (l.getD k (0, 0)).2 % 2 ^ i).testBit i = v at *
            generalize y ||| (l.getD k (0, 0)).2 % 2 ^ i = Y at *
            rcases (show (u = true ∧ v = false) ∨ (u && !v) = false by cases u <;> cases v <;> simp) with ⟨rfl, rfl⟩ | huv
            · rw [show (true && !false) = true from rfl, if_pos rfl] at hps
              (repeat' (first | refine a_seq ?_ | refine a_block ?_ | refine a_skip ?_ | refine a_ret ?_ | refine a_exit ?_ | refine a_region ?_ | refine l_nil ?_ | (apply w_q; (focus (first | exact Q_move (by conv => lhs; whnf) | exact Q_assign (by conv => lhs; whnf) | exact Q_fieldAddr_ptr rfl KFl.h | exact Q_fieldAddr_rpt rfl KFl.h | exact Q_load_ptr rfl rfl rfl KSc.h | exact Q_load_all rfl rfl KAg.h | exact Q_lss rfl rfl | exact Q_add rfl rfl (by omega) | exact Q_ix_nats rfl rfl rfl KSl.h (by omega) | exact Q_ix_ints rfl rfl rfl KSl.h (by omega) | exact Q_ix_ownN rfl rfl rfl rfl KSl.h (by omega) | exact Q_ix_own rfl rfl rfl rfl KSl.h (by omega) | exact Q_ix_rows rfl rfl rfl KSl.h (by omega) | exact Q_ix_pairsN rfl rfl rfl KSl.h (by omega) | exact Q_ix_pairs rfl rfl rfl KSl.h (by omega) | exact Q_ix_ords rfl rfl rfl KSl.h (by omega) | exact Q_ix_ownb rfl rfl rfl rfl KSl.h (by omega) | exact Q_ix_arr rfl rfl rfl KAr.h (by first | decide | omega) | exact Q_ix_arp rfl rfl rfl KAr.h (by first | decide | omega) | exact Q_ld_rpa rfl KAg.h rfl rfl (by first | (dsimp only [List.drop_zero, List.drop_succ_cons, List.take_succ_cons, List.take_zero, List.map, ofD]; done) | exact rfl) | exact Q_ld_rv rfl rfl KSc.h | exact Q_ld_rs rfl rfl KSc.h | exact Q_ld_nats rfl (by omega) KSc.h | exact Q_ld_ints rfl (by omega) KSc.h | exact Q_ld_ownN rfl rfl (by omega) KSc.h | exact Q_ld_own rfl rfl (by omega) KSc.h | exact Q_ld_rows rfl (by omega) KSc.h | exact Q_ld_pair1N rfl (by omega) KSc.h | exact Q_ld_pair2N rfl (by omega) KSc.h | exact Q_ld_pair1 rfl (by omega) KSc.h | exact Q_ld_pair2 rfl (by omega) KSc.h | exact Q_ld_pairN rfl (by omega) KAg.h | exact Q_ld_pair rfl (by omega) KAg.h | exact Q_ld_ord rfl (by omega) KAg.h | exact Q_ld_ownb rfl rfl (by omega) KSc.h | exact Q_not rfl | exact Q_pick_t rfl (by assumption) (by conv => lhs; whnf) | exact Q_pick_f rfl (by assumption) (by conv => lhs; whnf) | exact Q_pick_t rfl rfl (by conv => lhs; whnf) | exact Q_pick_f rfl rfl (by conv => lhs; whnf))); (focus exact rfl)) | (refine a_cond rfl ?_ ?_ <;> (intro h; (try (have hp := of_decide_eq_true h)); (try (have hp := of_decide_eq_false h)); (try contradiction); (try (exfalso; omega)))) | refine w_guard_u rfl rfl rfl ?_ | refine w_guard_y rfl rfl rfl (by first | assumption | rfl) ?_ | refine w_guard_n rfl rfl rfl (by first | assumption | rfl) ?_ | (refine w_guard rfl rfl rfl ?_ ?_ <;> (intro h; (try (have hp := of_decide_eq_true h)); (try (have hp := of_decide_eq_false h)); (try contradiction); (try (exfalso; omega)))) | (((first | apply w_q | apply w_qq); (focus exact Q_ld_pair2N rfl (by omega) KSc.h); (focus exact rfl))) | (((first | apply w_q | apply w_qq); (focus (refine Q_call (.inl ⟨rfl, rfl⟩) (kT) ?_; ((repeat' (first | exact trivial | exact vwR rfl | exact vwRL rfl | exact Vw.val _ | exact Vw.ro _ | exact Vw.any _ | exact Vw.valro _ | exact Vw.own _ _ rfl | exact Vw.ptr _ _ _ rfl | exact Vw.rpt _ _ | exact Vw.nilro _ | exact Vw.rowro _ _ _ _ rfl (by decide) | exact Vw.rowro2 rfl (by decide) (by with_unfolding_all exact rfl) | refine Vw.agg' ?_ | refine Vw.tup' ?_ | refine Vw.clo' ?_ | refine Vw.boxrpt' rfl (by decide) ?_ | exact Nat.le_of_ble_eq_true rfl | refine ⟨?_, ?_⟩ )); done))); (focus exact rfl))) | (((first | apply w_q | apply w_qq); (focus (refine Q_call (.inl ⟨rfl, rfl⟩) (kY) ?_; ((repeat' (first | exact trivial | exact vwR rfl | exact vwRL rfl | exact Vw.val _ | exact Vw.ro _ | exact Vw.any _ | exact Vw.valro _ | exact Vw.own _ _ rfl | exact Vw.ptr _ _ _ rfl | exact Vw.rpt _ _ | exact Vw.nilro _ | exact Vw.rowro _ _ _ _ rfl (by decide) | exact Vw.rowro2 rfl (by decide) (by with_unfolding_all exact rfl) | refine Vw.agg' ?_ | refine Vw.tup' ?_ | refine Vw.clo' ?_ | refine Vw.boxrpt' rfl (by decide) ?_ | exact Nat.le_of_ble_eq_true rfl | refine ⟨?_, ?_⟩ )); done))); (focus exact rfl))) | (((first | apply w_q | apply w_qq); (focus (refine Q_call (.inl ⟨rfl, rfl⟩) (kBi) ?_; ((repeat' (first | exact trivial | exact vwR rfl | exact vwRL rfl | exact Vw.val _ | exact Vw.ro _ | exact Vw.any _ | exact Vw.valro _ | exact Vw.own _ _ rfl | exact Vw.ptr _ _ _ rfl | exact Vw.rpt _ _ | exact Vw.nilro _ | exact Vw.rowro _ _ _ _ rfl (by decide) | exact Vw.rowro2 rfl (by decide) (by with_unfolding_all exact rfl) | refine Vw.agg' ?_ | refine Vw.tup' ?_ | refine Vw.clo' ?_ | refine Vw.boxrpt' rfl (by decide) ?_ | exact Nat.le_of_ble_eq_true rfl | refine ⟨?_, ?_⟩ )); done))); (focus exact rfl))))); (try all_goals (try show retA _ _ _ _ _ _ _))
              all_goals first
                | (exfalso; omega)
                | (try dsimp only [thenA, blockA]
                   refine ⟨i + 1, [0], ?_, ?_, ?_, rfl⟩ <;> (try dsimp only)
                   · omega
                   · omega
                   · rw [hps]
                     (refine St.le_mk rfl (VwOs.mk (by decide) ?_) ?_ <;> (repeat' (first | exact trivial | exact vwR rfl | exact Vw.val _ | exact Vw.ro _ | exact Vw.any _ | exact Vw.own _ _ rfl | exact Vw.ptr _ _ _ rfl | exact Vw.rpt _ _ | exact Vw.valro _ | exact Vw.nilro _ | exact Vw.rowro _ _ _ _ rfl (by decide) | (refine Vw.int' ?_; first | rfl | omega | (simp; done)) | (refine Vw.bool' ?_; first | rfl | (simp; done)) | refine Vw.agg' ?_ | refine Vw.tup' ?_ | refine Vw.clo' ?_ | exact VwO.row _ _ _ | refine VwO.box' ?_ | exact VwO.gone _ | exact VwO.mp _ | exact VwO.mat _ _ _ | refine ⟨⟨_, rfl, ?_⟩, ?_⟩ | refine ⟨?_, ?_⟩ ))))
                | (all_goals trace_state); fail
            · rw [huv, if_neg (by decide)] at hps
              cases u <;> cases v <;> (try cases huv)
              all_goals
                (repeat' (first | refine a_seq ?_ | refine a_block ?_ | refine a_skip ?_ | refine a_ret ?_ | refine a_exit ?_ | refine a_region ?_ | refine l_nil ?_ | (apply w_q; (focus (first | exact Q_move (by conv => lhs; whnf) | exact Q_assign (by conv => lhs; whnf) | exact Q_fieldAddr_ptr rfl KFl.h | exact Q_fieldAddr_rpt rfl KFl.h | exact Q_load_ptr rfl rfl rfl KSc.h | exact Q_load_all rfl rfl KAg.h | exact Q_lss rfl rfl | exact Q_add rfl rfl (by omega) | exact Q_ix_nats rfl rfl rfl KSl.h (by omega) | exact Q_ix_ints rfl rfl rfl KSl.h (by omega) | exact Q_ix_ownN rfl rfl rfl rfl KSl.h (by omega) | exact Q_ix_own rfl rfl rfl rfl KSl.h (by omega) | exact Q_ix_rows rfl rfl rfl KSl.h (by omega) | exact Q_ix_pairsN rfl rfl rfl KSl.h (by omega) | exact Q_ix_pairs rfl rfl rfl KSl.h (by omega) | exact Q_ix_ords rfl rfl rfl KSl.h (by omega) | exact Q_ix_ownb rfl rfl rfl rfl KSl.h (by omega) | exact Q_ix_arr rfl rfl rfl KAr.h (by first | decide | omega) | exact Q_ix_arp rfl rfl rfl KAr.h (by first | decide | omega) | exact Q_ld_rpa rfl KAg.h rfl rfl (by first | (dsimp only [List.drop_zero, List.drop_succ_cons, List.take_succ_cons, List.take_zero, List.map, ofD]; done) | exact rfl) | exact Q_ld_rv rfl rfl KSc.h | exact Q_ld_rs rfl rfl KSc.h | exact Q_ld_nats rfl (by omega) KSc.h | exact Q_ld_ints rfl (by omega) KSc.h | exact Q_ld_ownN rfl rfl (by omega) KSc.h | exact Q_ld_own rfl rfl (by omega) KSc.h | exact Q_ld_rows rfl (by omega) KSc.h | exact Q_ld_pair1N rfl (by omega) KSc.h | exact Q_ld_pair2N rfl (by omega) KSc.h | exact Q_ld_pair1 rfl (by omega) KSc.h | exact Q_ld_pair2 rfl (by omega) KSc.h | exact Q_ld_pairN rfl (by omega) KAg.h | exact Q_ld_pair rfl (by omega) KAg.h | exact Q_ld_ord rfl (by omega) KAg.h | exact Q_ld_ownb rfl rfl (by omega) KSc.h | exact Q_not rfl | exact Q_pick_t rfl (by assumption) (by conv => lhs; whnf) | exact Q_pick_f rfl (by assumption) (by conv => lhs; whnf) | exact Q_pick_t rfl rfl (by conv => lhs; whnf) | exact Q_pick_f rfl rfl (by conv => lhs; whnf))); (focus exact rfl)) | (refine a_cond rfl ?_ ?_ <;> (intro h; (try (have hp := of_decide_eq_true h)); (try (have hp := of_decide_eq_false h)); (try contradiction); (try (exfalso; omega)))) | refine w_guard_u rfl rfl rfl ?_ | refine w_guard_y rfl rfl rfl (by first | assumption | rfl) ?_ | refine w_guard_n rfl rfl rfl (by first | assumption | rfl) ?_ | (refine w_guard rfl rfl rfl ?_ ?_ <;> (intro h; (try (have hp := of_decide_eq_true h)); (try (have hp := of_decide_eq_false h)); (try contradiction); (try (exfalso; omega)))) | (((first | apply w_q | apply w_qq); (focus exact Q_ld_pair2N rfl (by omega) KSc.h); (focus exact rfl))) | (((first | apply w_q | apply w_qq); (focus (refine Q_call (.inl ⟨rfl, rfl⟩) (kT) ?_; ((repeat' (first | exact trivial | exact vwR rfl | exact vwRL rfl | exact Vw.val _ | exact Vw.ro _ | exact Vw.any _ | exact Vw.valro _ | exact Vw.own _ _ rfl | exact Vw.ptr _ _ _ rfl | exact Vw.rpt _ _ | exact Vw.nilro _ | exact Vw.rowro _ _ _ _ rfl (by decide) | exact Vw.rowro2 rfl (by decide) (by with_unfolding_all exact rfl) | refine Vw.agg' ?_ | refine Vw.tup' ?_ | refine Vw.clo' ?_ | refine Vw.boxrpt' rfl (by decide) ?_ | exact Nat.le_of_ble_eq_true rfl | refine ⟨?_, ?_⟩ )); done))); (focus exact rfl))) | (((first | apply w_q | apply w_qq); (focus (refine Q_call (.inl ⟨rfl, rfl⟩) (kY) ?_; ((repeat' (first | exact trivial | exact vwR rfl | exact vwRL rfl | exact Vw.val _ | exact Vw.ro _ | exact Vw.any _ | exact Vw.valro _ | exact Vw.own _ _ rfl | exact Vw.ptr _ _ _ rfl | exact Vw.rpt _ _ | exact Vw.nilro _ | exact Vw.rowro _ _ _ _ rfl (by decide) | exact Vw.rowro2 rfl (by decide) (by with_unfolding_all exact rfl) | refine Vw.agg' ?_ | refine Vw.tup' ?_ | refine Vw.clo' ?_ | refine Vw.boxrpt' rfl (by decide) ?_ | exact Nat.le_of_ble_eq_true rfl | refine ⟨?_, ?_⟩ )); done))); (focus exact rfl))))); (try all_goals (try show retA _ _ _ _ _ _ _))
                all_goals first
                  | (exfalso; omega)
                  | (try dsimp only [thenA, blockA]
                     refine ⟨i + 1, [0], ?_, ?_, ?_, rfl⟩ <;> (try dsimp only)
                     · omega
                     · omega
                     · rw [hps]
                       (refine St.le_mk rfl (VwOs.mk (by decide) ?_) ?_ <;> (repeat' (first | exact trivial | exact vwR rfl | exact Vw.val _ | exact Vw.ro _ | exact Vw.any _ | exact Vw.own _ _ rfl | exact Vw.ptr _ _ _ rfl | exact Vw.rpt _ _ | exact Vw.valro _ | exact Vw.nilro _ | exact Vw.rowro _ _ _ _ rfl (by decide) | (refine Vw.int' ?_; first | rfl | omega | (simp; done)) | (refine Vw.bool' ?_; first | rfl | (simp; done)) | refine Vw.agg' ?_ | refine Vw.tup' ?_ | refine Vw.clo' ?_ | exact VwO.row _ _ _ | refine VwO.box' ?_ | exact VwO.gone _ | exact VwO.mp _ | exact VwO.mat _ _ _ | refine ⟨⟨_, rfl, ?_⟩, ?_⟩ | refine ⟨?_, ?_⟩ ))))
                  | (all_goals trace_state); fail
          · obtain rfl : i = n := by omega
            rw [hpe]
            (repeat' (first | refine a_seq ?_ | refine a_block ?_ | refine a_skip ?_ | refine a_ret ?_ | refine a_exit ?_ | refine a_region ?_ | refine l_nil ?_ | (apply w_q; (focus (first | exact Q_move (by conv => lhs; whnf) | exact Q_assign (by conv => lhs; whnf) | exact Q_lss rfl rfl | exact Q_add rfl rfl (by omega))); (focus exact rfl)) | (refine a_cond rfl ?_ ?_ <;> (intro h; (try (have hp := of_decide_eq_true h)); (try (have hp := of_decide_eq_false h)); (try contradiction); (try (exfalso; omega)))))); (try all_goals (try show retA _ _ _ _ _ _ _))
            all_goals first
              | (exfalso; omega)
              | (try dsimp only [thenA, blockA]
                 refine ⟨(k + 1, y ||| (l.getD k (0, 0)).2, true), [0], ?_, ?_, ?_, rfl⟩ <;> (try dsimp only)
                 · (try dsimp only)
                   exact ⟨by omega, hs2, hst, by omega, fun _ => by omega, fun h => by cases h⟩
                 · (try dsimp only); omega
                 · (refine St.le_mk rfl (VwOs.mk (by decide) ?_) ?_ <;> (repeat' (first | exact trivial | exact vwR rfl | exact Vw.val _ | exact Vw.ro _ | exact Vw.any _ | exact Vw.own _ _ rfl | exact Vw.ptr _ _ _ rfl | exact Vw.rpt _ _ | exact Vw.valro _ | exact Vw.nilro _ | exact Vw.rowro _ _ _ _ rfl (by decide) | (refine Vw.int' ?_; first | rfl | omega | (simp; done)) | (refine Vw.bool' ?_; first | rfl | (simp; done)) | refine Vw.agg' ?_ | refine Vw.tup' ?_ | refine Vw.clo' ?_ | exact VwO.row _ _ _ | refine VwO.box' ?_ | exact VwO.gone _ | exact VwO.mp _ | exact VwO.mat _ _ _ | refine ⟨⟨_, rfl, ?_⟩, ?_⟩ | refine ⟨?_, ?_⟩ ))))
              | (all_goals trace_state); fail
        | true =>
          rw [hbo] at k1
          have hnx : m = false → y = x ∧ ∀ j, j < k + 1 → obl x (l.getD j (0, 0)) = true := fun h => by
            obtain ⟨a, b⟩ := g5 h
            refine ⟨a, fun j hj => ?_⟩
            by_cases e : j = k
            · subst e; subst a; exact hbo
            · exact b j (by omega)
          (repeat' (first | refine a_seq ?_ | refine a_block ?_ | refine a_skip ?_ | refine a_ret ?_ | refine a_exit ?_ | refine a_region ?_ | refine l_nil ?_ | (apply w_q; (focus (first | exact Q_move (by conv => lhs; whnf) | exact Q_assign (by conv => lhs; whnf) | exact Q_load_ptr rfl rfl rfl KSc.h | exact Q_load_all rfl rfl KAg.h | exact Q_lss rfl rfl | exact Q_add rfl rfl (by omega) | exact Q_ix_nats rfl rfl rfl KSl.h (by omega) | exact Q_ix_ints rfl rfl rfl KSl.h (by omega) | exact Q_ix_ownN rfl rfl rfl rfl KSl.h (by omega) | exact Q_ix_own rfl rfl rfl rfl KSl.h (by omega) | exact Q_ix_rows rfl rfl rfl KSl.h (by omega) | exact Q_ix_pairsN rfl rfl rfl KSl.h (by omega) | exact Q_ix_pairs rfl rfl rfl KSl.h (by omega) | exact Q_ix_ords rfl rfl rfl KSl.h (by omega) | exact Q_ix_ownb rfl rfl rfl rfl KSl.h (by omega) | exact Q_ix_arr rfl rfl rfl KAr.h (by first | decide | omega) | exact Q_ix_arp rfl rfl rfl KAr.h (by first | decide | omega) | exact Q_ld_rpa rfl KAg.h rfl rfl (by first | (dsimp only [List.drop_zero, List.drop_succ_cons, List.take_succ_cons, List.take_zero, List.map, ofD]; done) | exact rfl) | exact Q_ld_rv rfl rfl KSc.h | exact Q_ld_rs rfl rfl KSc.h | exact Q_ld_nats rfl (by omega) KSc.h | exact Q_ld_ints rfl (by omega) KSc.h | exact Q_ld_ownN rfl rfl (by omega) KSc.h | exact Q_ld_own rfl rfl (by omega) KSc.h | exact Q_ld_rows rfl (by omega) KSc.h | exact Q_ld_pair1N rfl (by omega) KSc.h | exact Q_ld_pair2N rfl (by omega) KSc.h | exact Q_ld_pair1 rfl (by omega) KSc.h | exact Q_ld_pair2 rfl (by omega) KSc.h | exact Q_ld_pairN rfl (by omega) KAg.h | exact Q_ld_pair rfl (by omega) KAg.h | exact Q_ld_ord rfl (by omega) KAg.h | exact Q_ld_ownb rfl rfl (by omega) KSc.h | exact Q_len_nats rfl KSl.h | exact Q_len_ints rfl KSl.h | exact Q_len_ownN rfl rfl KSl.h | exact Q_len_own' rfl rfl KSl.h | exact Q_len_rows rfl KSl.h | exact Q_len_pairsN rfl KSl.h | exact Q_len_pairs rfl KSl.h | exact Q_len_ords rfl KSl.h | exact Q_len_nil' rfl KSl.h | exact Q_len_ownp rfl rfl KSl.h | exact Q_not rfl)); (focus exact rfl)) | (refine a_cond rfl ?_ ?_ <;> (intro h; (try (have hp := of_decide_eq_true h)); (try (have hp := of_decide_eq_false h)); (try contradiction); (try (exfalso; omega)))) | (((first | apply w_q | apply w_qq); (focus exact Q_ld_pairN rfl (by omega) KAg.h); (focus exact rfl))) | (((first | apply w_q | apply w_qq); (focus (refine Q_call (.inl ⟨rfl, rfl⟩) (k1) ?_; ((repeat' (first | exact trivial | exact vwR rfl | exact vwRL rfl | exact Vw.val _ | exact Vw.ro _ | exact Vw.any _ | exact Vw.valro _ | exact Vw.own _ _ rfl | exact Vw.ptr _ _ _ rfl | exact Vw.rpt _ _ | exact Vw.nilro _ | exact Vw.rowro _ _ _ _ rfl (by decide) | exact Vw.rowro2 rfl (by decide) (by with_unfolding_all exact rfl) | refine Vw.agg' ?_ | refine Vw.tup' ?_ | refine Vw.clo' ?_ | refine Vw.boxrpt' rfl (by decide) ?_ | exact Nat.le_of_ble_eq_true rfl | refine ⟨?_, ?_⟩ )); done))); (focus exact rfl))))); (try all_goals (try show retA _ _ _ _ _ _ _))
          all_goals first
            | (exfalso; omega)
            | (try dsimp only [thenA, blockA]
               refine ⟨(k + 1, y, m), [0], ?_, ?_, ?_, rfl⟩ <;> (try dsimp only)
               · (try dsimp only)
                 exact ⟨by omega, g1, g2, g3, g4, hnx⟩
               · (try dsimp only); omega
               · (refine St.le_mk rfl (VwOs.mk (by decide) ?_) ?_ <;> (repeat' (first | exact trivial | exact vwR rfl | exact Vw.val _ | exact Vw.ro _ | exact Vw.any _ | exact Vw.own _ _ rfl | exact Vw.ptr _ _ _ rfl | exact Vw.rpt _ _ | exact Vw.valro _ | exact Vw.nilro _ | exact Vw.rowro _ _ _ _ rfl (by decide) | (refine Vw.int' ?_; first | rfl | omega | (simp; done)) | (refine Vw.bool' ?_; first | rfl | (simp; done)) | refine Vw.agg' ?_ | refine Vw.tup' ?_ | refine Vw.clo' ?_ | exact VwO.row _ _ _ | refine VwO.box' ?_ | exact VwO.gone _ | exact VwO.mp _ | exact VwO.mat _ _ _ | refine ⟨⟨_, rfl, ?_⟩, ?_⟩ | refine ⟨?_, ?_⟩ ))))
            | (all_goals trace_state); fail
      · obtain rfl : k = l.length := by omega
        (repeat' (first | refine a_seq ?_ | refine a_block ?_ | refine a_skip ?_ | refine a_ret ?_ | refine a_exit ?_ | refine a_region ?_ | refine l_nil ?_ | (apply w_q; (focus (first | exact Q_move (by conv => lhs; whnf) | exact Q_lss rfl rfl | exact Q_len_nats rfl KSl.h | exact Q_len_ints rfl KSl.h | exact Q_len_ownN rfl rfl KSl.h | exact Q_len_own' rfl rfl KSl.h | exact Q_len_rows rfl KSl.h | exact Q_len_pairsN rfl KSl.h | exact Q_len_pairs rfl KSl.h | exact Q_len_ords rfl KSl.h | exact Q_len_nil' rfl KSl.h | exact Q_len_ownp rfl rfl KSl.h)); (focus exact rfl)) | (refine a_cond rfl ?_ ?_ <;> (intro h; (try (have hp := of_decide_eq_true h)); (try (have hp := of_decide_eq_false h)); (try contradiction); (try (exfalso; omega)))))); (try all_goals (try show retA _ _ _ _ _ _ _))
        all_goals first
          | (exfalso; omega)
          | skip
        try dsimp only [thenA, blockA]
        refine ⟨(y, m), [0], ?_, ?_, ?_, rfl⟩ <;> (try dsimp only)
        · refine ⟨g1, g2, fun h => ?_⟩
          obtain ⟨a, b⟩ := g5 h
          subst a
          exact oba_iff.2 fun r hr h4 => by
            obtain ⟨j, hj, rfl⟩ := List.getElem_of_mem hr
            have h5 := b j hj
            rw [List.getD_eq_getElem?_getD, List.getElem?_eq_getElem hj] at h5
            unfold obl at h5
            change (!sub l[j].1 y || sub l[j].2 y) = true at h5
            rw [h4] at h5
            exact h5
        · (try dsimp only)
          cases m with
          | false => have := (g5 rfl).1; simp; omega
          | true => have := g4 rfl; simp; omega
        · (refine St.le_mk rfl (VwOs.mk (by decide) ?_) ?_ <;> (repeat' (first | exact trivial | exact vwR rfl | exact Vw.val _ | exact Vw.ro _ | exact Vw.any _ | exact Vw.own _ _ rfl | exact Vw.ptr _ _ _ rfl | exact Vw.rpt _ _ | exact Vw.valro _ | exact Vw.nilro _ | exact Vw.rowro _ _ _ _ rfl (by decide) | (refine Vw.int' ?_; first | rfl | omega | (simp; done)) | (refine Vw.bool' ?_; first | rfl | (simp; done)) | refine Vw.agg' ?_ | refine Vw.tup' ?_ | refine Vw.clo' ?_ | exact VwO.row _ _ _ | refine VwO.box' ?_ | exact VwO.gone _ | exact VwO.mp _ | exact VwO.mat _ _ _ | refine ⟨⟨_, rfl, ?_⟩, ?_⟩ | refine ⟨?_, ?_⟩ )))
  · obtain rfl : s = 2 ^ n := by omega
    (repeat' (first | refine a_seq ?_ | refine a_block ?_ | refine a_skip ?_ | refine a_ret ?_ | refine a_exit ?_ | refine a_region ?_ | refine l_nil ?_ | (apply w_q; (focus (first | exact Q_move (by conv => lhs; whnf) | exact Q_assign (by conv => lhs; whnf) | exact Q_lss rfl rfl)); (focus exact rfl)) | (refine a_cond rfl ?_ ?_ <;> (intro h; (try (have hp := of_decide_eq_true h)); (try (have hp := of_decide_eq_false h)); (try contradiction); (try (exfalso; omega)))) | (((first | apply w_q | apply w_qq); (focus (refine Q_call (.inl ⟨rfl, rfl⟩) (kBn) ?_; ((repeat' (first | exact trivial | exact vwR rfl | exact vwRL rfl | exact Vw.val _ | exact Vw.ro _ | exact Vw.any _ | exact Vw.valro _ | exact Vw.own _ _ rfl | exact Vw.ptr _ _ _ rfl | exact Vw.rpt _ _ | exact Vw.nilro _ | exact Vw.rowro _ _ _ _ rfl (by decide) | exact Vw.rowro2 rfl (by decide) (by with_unfolding_all exact rfl) | refine Vw.agg' ?_ | refine Vw.tup' ?_ | refine Vw.clo' ?_ | refine Vw.boxrpt' rfl (by decide) ?_ | exact Nat.le_of_ble_eq_true rfl | refine ⟨?_, ?_⟩ )); done))); (focus exact rfl))))); (try all_goals (try show retA _ _ _ _ _ _ _))
    all_goals first
      | (exfalso; omega)
      | (refine ⟨[_], [0], ⟨resV_tmp (by conv => lhs; whnf), trivial⟩, VwOs.mk (by decide) ⟨⟨_, rfl, .row _ _ _⟩, trivial⟩, ?_, rfl⟩; (repeat' (first | exact trivial | exact vwR rfl | exact vwRL rfl | exact Vw.val _ | exact Vw.ro _ | exact Vw.any _ | exact Vw.valro _ | exact Vw.own _ _ rfl | exact Vw.ptr _ _ _ rfl | exact Vw.rpt _ _ | exact Vw.nilro _ | exact Vw.rowro _ _ _ _ rfl (by decide) | exact Vw.rowro2 rfl (by decide) (by with_unfolding_all exact rfl) | refine Vw.agg' ?_ | refine Vw.tup' ?_ | refine Vw.clo' ?_ | refine Vw.boxrpt' rfl (by decide) ?_ | exact Nat.le_of_ble_eq_true rfl | refine ⟨?_, ?_⟩ )); done)
      | (all_goals trace_state); fail
end Go.Proofs.Ytfjpgficpdbelaa
