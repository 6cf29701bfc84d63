import Derived.Test.YtgojkabjgagjcaaGv
set_option linter.unusedSimpArgs false
set_option linter.unusedVariables false
set_option linter.unusedSectionVars false
set_option maxRecDepth 20000
namespace Go.Proofs.Ytgojkabjgagjcaa
attribute [local irreducible] QOp aL aC qL
theorem rest_prs {n : Nat} {ns : List Nat} (hv : Vld n ns) (s : Nat) : rest n (mayB (prsTo n (pf n ns false) n ++ [])) s = rest n (mayO ns) s := by
  rw [List.append_nil]
  exact rest_congr (fun s p _ => mayB_prs hv s p) s
theorem ECount_ok (n : Nat) (ns : List Nat) (hn : n ≤ 10) (hv : Vld n ns) (hok : okB n ns = true) : AC Try.prog 36 [ordv n (nl ns)] [] (.tup [.val (.int .i64 (rest n (mayO ns) 0 : Nat)), .val (.int .i64 0)]) [] := by
  have h0 := chk_ok hn hv hok
  have call := rows_ac n ns hn hv [] (by decide) (fun p hp => by cases hp)
  rw [rest_prs hv] at call
  refine AC.mk (n := 12) (fn := Try.f36) Try.func36 (by kernel_rfl) rfl rfl rfl rfl (fun cx => ?_); dsimp only [argv, Nat.reduceAdd]
  (repeat' (first | refine a_seq ?_ | refine a_skip ?_ | refine a_ret ?_ | refine a_region ?_ | refine l_nil ?_ | (apply w_q; (focus (first | exact Q_move (by conv => lhs; whnf) | exact Q_assign (by conv => lhs; whnf) | exact Q_load_all rfl rfl KAg.h | exact Q_neq rfl rfl)); (focus exact rfl)) | (refine a_cond rfl ?_ ?_ <;> (intro h; (try (have hp := of_decide_eq_true h)); (try (have hp := of_decide_eq_false h)); (try contradiction); (try (exfalso; omega)))) | refine w_box rfl rfl (by first|(dsimp only[obA,obB,obD,obE,obF,obG,obI,List.map,AO.sh,AV.sh,AV.shl,Nat.reduceAdd];done)|exact rfl) (by first|(dsimp only[obA,obB,obD,obE,obF,obG,obI,List.map,AO.sh,AV.sh,AV.shl,Nat.reduceAdd];done)|exact rfl) rfl ?_ | (((first | apply w_q); (focus (refine Q_call (.inl ⟨rfl, rfl⟩) (Check_ac n (nl ns)) ?_; ((repeat' (first | exact trivial | exact vwR rfl | exact Vw.ro _ | refine Vw.agg' ?_ | refine ⟨?_, ?_⟩ )); done))); (focus exact rfl))) | (((first | apply w_q); (focus (refine Q_call (.inl ⟨rfl, rfl⟩) (call) ?_; ((repeat' (first | exact trivial | exact vwR rfl | exact Vw.ro _ | exact Vw.nilro _ | refine Vw.agg' ?_ | refine ⟨?_, ?_⟩ )); done))); (focus exact rfl))))); (try all_goals (try show retA _ _ _ _ _ _ _))
  refine ⟨[_, _], [], ⟨resV_tmp (by conv => lhs; whnf), resV_tmp (by conv => lhs; whnf), trivial⟩, VwOs.mk (by decide) trivial, ?_, rfl⟩
  (repeat' (first | exact vwRL rfl | refine Vw.tup' ?_))
end Go.Proofs.Ytgojkabjgagjcaa
set_option linter.unusedSimpArgs false
set_option linter.unusedVariables false
set_option linter.unusedSectionVars false
set_option maxRecDepth 20000
namespace Go.Proofs.Ytgojkabjgagjcaa
attribute [local irreducible] QOp aL aC qL
/-- Which comes next behind a set, of the rows ahead of which k others come. -/
def pkB (n : Nat) (may : Nat → Nat → Bool) (s k p : Nat) : Bool := decide (k < sumTo (term n may s) (p + 1))
def pk (n : Nat) (may : Nat → Nat → Bool) (s k : Nat) : Nat := ((List.range n).find? (pkB n may s k)).getD 0
theorem pk_spec {n : Nat} {may : Nat → Nat → Bool} {s k : Nat} (h : k < sumTo (term n may s) n) : pk n may s k < n ∧ k < sumTo (term n may s) (pk n may s k + 1) ∧ ∀ q, q ≤ pk n may s k → sumTo (term n may s) q ≤ k := by
  have hn : 0 < n := by
    rcases Nat.eq_zero_or_pos n with h0 | h0
    · subst h0; simp [sumTo] at h
    · exact h0
  unfold pk
  cases hf : (List.range n).find? (pkB n may s k) with
  | none =>
    have := List.find?_eq_none.1 hf (n - 1) (List.mem_range.2 (by omega))
    unfold pkB at this
    rw [show n - 1 + 1 = n by omega, decide_eq_true_eq] at this
    exact absurd h this
  | some x =>
    have h1 := List.find?_some hf
    have h2 := List.mem_of_find?_eq_some hf
    rw [List.find?_range_eq_some] at hf
    unfold pkB at h1
    rw [decide_eq_true_eq] at h1
    refine ⟨List.mem_range.1 h2, h1, fun q hq => ?_⟩
    cases q with
    | zero => exact Nat.zero_le _
    | succ q =>
      have := hf.2.2 q (by simp at hq; omega)
      unfold pkB at this
      simpa using this
def nst (n : Nat) (may : Nat → Nat → Bool) (k0 : Nat) : Nat → Nat × Nat × List Nat
  | 0 => (0, k0, [])
  | j + 1 => ((nst n may k0 j).1 ||| 2 ^ pk n may (nst n may k0 j).1 (nst n may k0 j).2.1, (nst n may k0 j).2.1 - sumTo (term n may (nst n may k0 j).1) (pk n may (nst n may k0 j).1 (nst n may k0 j).2.1), (nst n may k0 j).2.2 ++ [pk n may (nst n may k0 j).1 (nst n may k0 j).2.1])
structure Nst (n : Nat) (may : Nat → Nat → Bool) (j : Nat) (q : Nat × Nat × List Nat) : Prop where
  hs : q.1 < 2 ^ n
  mis : mis n q.1 + j = n
  hk : q.2.1 < rest n may q.1
  len : q.2.2.length = j
theorem nst_sum {n : Nat} {may : Nat → Nat → Bool} (hm : ∀ s p, may s p = true → s.testBit p = false) {j : Nat} {q : Nat × Nat × List Nat} (h : Nst n may j q) (hj : j < n) : q.2.1 < sumTo (term n may q.1) n := by
  have hf : q.1 ≠ 2 ^ n - 1 := fun hq => by
    have := (mis_full h.hs).2 hq
    have := h.mis
    omega
  rw [← rest_step hm h.hs hf]
  exact h.hk
theorem pk_may {n : Nat} {may : Nat → Nat → Bool} {s k : Nat} (h : k < sumTo (term n may s) n) : may s (pk n may s k) = true ∧ k - sumTo (term n may s) (pk n may s k) < rest n may (s ||| 2 ^ pk n may s k) := by
  obtain ⟨_, h2, h3⟩ := pk_spec h
  have h4 := h3 _ (Nat.le_refl _)
  have e : sumTo (term n may s) (pk n may s k + 1) = sumTo (term n may s) (pk n may s k) + term n may s (pk n may s k) := rfl
  have ht : term n may s (pk n may s k) = if may s (pk n may s k) = true then rest n may (s ||| 2 ^ pk n may s k) else 0 := rfl
  by_cases hq : may s (pk n may s k) = true
  · rw [if_pos hq] at ht
    exact ⟨hq, by omega⟩
  · rw [if_neg hq] at ht
    omega
theorem nst_ok {n : Nat} {may : Nat → Nat → Bool} (hm : ∀ s p, may s p = true → s.testBit p = false) {k0 : Nat} (h0 : k0 < rest n may 0) : ∀ j, j ≤ n → Nst n may j (nst n may k0 j)
  | 0, _ => ⟨Nat.pow_pos (by decide), by rw [show (nst n may k0 0).1 = 0 from rfl, mis_nought]; rfl, h0, rfl⟩
  | j + 1, hj => by
    have ih := nst_ok hm h0 j (by omega)
    have hsum := nst_sum hm ih (by omega)
    obtain ⟨h1, _, _⟩ := pk_spec hsum
    obtain ⟨h2, h3⟩ := pk_may hsum
    refine ⟨Nat.or_lt_two_pow ih.hs (Nat.pow_lt_pow_right (by decide) h1), ?_, h3, ?_⟩
    · have := mis_add (hm _ _ h2) h1
      have := ih.mis
      show mis n ((nst n may k0 j).1 ||| 2 ^ pk n may (nst n may k0 j).1 (nst n may k0 j).2.1) + (j + 1) = n
      omega
    · show ((nst n may k0 j).2.2 ++ [_]).length = j + 1
      rw [List.length_append, ih.len]; rfl
def nthN (n : Nat) (ns : List Nat) (k : Nat) : List Nat := (nst n (mayO ns) k n).2.2
set_option maxHeartbeats 1000000 in
theorem Nth_ok (n : Nat) (ns : List Nat) (k0 : Nat) (hn : n ≤ 10) (hv : Vld n ns) (hok : okB n ns = true) (hk0 : k0 < rest n (mayO ns) 0) : AC Try.prog 34 [ordv n (nl ns), .val (.int .i64 k0)] [] (.tup [.own 0, .val (.int .i64 0)]) [.row 3 1 (intc (nl (nthN n ns k0)))] := by
  have h0 := chk_ok hn hv hok
  have hcnt := counts_ac n ns hn hv
  have hpos : 0 < 2 ^ n := Nat.pow_pos (by decide)
  have hlen := hv.1
  have hpn := p2_10 hn
  have htl := tbl_len n (mayO ns) 0
  have htg : ∀ s, s < 2 ^ n → (tbl n (mayO ns) 0).getD s 0 = rest n (mayO ns) s := fun s hs => by rw [tbl_get hs, if_pos (Nat.zero_le s)]
  have ht0 := htg 0 hpos
  generalize tbl n (mayO ns) 0 = Y at *
  refine AC.mk (n := 76) (fn := Try.f34) Try.func34 (by kernel_rfl) rfl rfl rfl rfl (fun cx => ?_); dsimp only [argv, Nat.reduceAdd]
  (repeat' (first | refine a_seq ?_ | refine a_block ?_ | refine a_skip ?_ | refine a_region ?_ | refine l_nil ?_ | (apply w_q; (focus (first | exact Q_move (by conv => lhs; whnf) | exact Q_assign (by conv => lhs; whnf) | exact Q_fieldAddr_ptr rfl KFl.h | exact Q_load_ptr rfl rfl rfl KSc.h | exact Q_load_all rfl rfl KAg.h | exact Q_lss rfl rfl | exact Q_geq rfl rfl | exact Q_neq rfl rfl | exact Q_ld_ownN rfl rfl (by omega) KSc.h | exact Q_pick_f rfl rfl (by conv => lhs; whnf))); (focus exact rfl)) | (refine a_cond rfl ?_ ?_ <;> (intro h; (try (have hp := of_decide_eq_true h)); (try (have hp := of_decide_eq_false h)); (try contradiction); (try (exfalso; omega)))) | refine w_guard_y rfl rfl rfl (by first | assumption | rfl) ?_ | refine w_box rfl rfl (by first|(dsimp only[obA,obB,obD,obE,obF,obG,obI,List.map,AO.sh,AV.sh,AV.shl,Nat.reduceAdd];done)|exact rfl) (by first|(dsimp only[obA,obB,obD,obE,obF,obG,obI,List.map,AO.sh,AV.sh,AV.shl,Nat.reduceAdd];done)|exact rfl) rfl ?_ | (((first | apply w_q); (focus (refine Q_call (.inl ⟨rfl, rfl⟩) (Check_ac n (nl ns)) ?_; ((repeat' (first | exact trivial | exact vwR rfl | exact Vw.ro _ | refine Vw.agg' ?_ | refine ⟨?_, ?_⟩ )); done))); (focus exact rfl))) | ((refine w_callR (res := .own 0) (news := [.row 3 1 (intc (nl Y))]) (.inl ⟨rfl, rfl⟩) (hcnt) ?_ ?_ ?_ rfl (by repeat' (first | exact trivial | exact flat_ints _ _ | refine ⟨?_, ?_⟩)) (by first|(dsimp only[obA,obB,obD,obE,obF,obG,obI,List.map,AO.sh,AV.sh,AV.shl,Nat.reduceAdd];done)|exact rfl) (by first|(dsimp only[obA,obB,obD,obE,obF,obG,obI,List.map,AO.sh,AV.sh,AV.shl,Nat.reduceAdd];done)|exact rfl) rfl ?_; rotate_left 0; (focus exact rfl); (focus exact rfl); (focus ((repeat' (first | exact trivial | exact vwR rfl | exact Vw.ro _ | refine Vw.agg' ?_ | refine ⟨?_, ?_⟩ )); done)); rotate_left 1; all_goals (try (skip)))) | (((first | apply w_q); (focus exact Q_ix_ownN (o := 0) rfl rfl rfl rfl KSl.h (by omega)); (focus exact rfl))))); (try all_goals (try show retA _ _ _ _ _ _ _))
  refine w_nilownC 8 3 1 rfl (by first|(dsimp only[obA,obB,obD,obE,obF,obG,obI,List.map,AO.sh,AV.sh,AV.shl,Nat.reduceAdd];done)|exact rfl) rfl ?_
  refine w_loop (X := Nat) [2, 7, 30] (by simp only [keepv, getv_cons, Nat.reduceEqDiff, ↓reduceIte]; exact rfl) (fun j => [(1, .val (.int .i64 ((nst n (mayO ns) k0 j).2.1 : Nat))), (8, .own 2), (9, .val (.int .i64 ((nst n (mayO ns) k0 j).1 : Nat))), (31, .val (.int .i64 (j : Int)))]) (fun j => [.box [.val (.int .i64 n), ints (nl ns)], .row 3 1 (intc (nl Y)), .row 3 1 (intc (nl (nst n (mayO ns) k0 j).2.2))]) (fun j => j ≤ n) (fun j => n - j) (0) ([0, 1, 2]) ?_ ?_ rfl ?_ <;> (try dsimp only [List.cons_append, List.nil_append])
  · exact Nat.zero_le _
  · rw [show (nst n (mayO ns) k0 0).2.1 = k0 from rfl, show (nst n (mayO ns) k0 0).1 = 0 from rfl, show (nst n (mayO ns) k0 0).2.2 = [] from rfl]
    (refine St.le_mk rfl (VwOs.mk (by decide) ?_) ?_ <;> (repeat' (first | exact trivial | exact vwR rfl | exact Vw.ro _ | exact Vw.own _ _ rfl | exact Vw.ptr _ _ _ rfl | exact VwO.row _ _ _ | refine VwO.box' ?_ | refine ⟨⟨_, rfl, ?_⟩, ?_⟩ | refine ⟨?_, ?_⟩ )))
  rintro j hj
  have hN := nst_ok (may := mayO ns) (fun s p h => mayO_not h) hk0 j hj
  have hS := fun h : j < n => nst_sum (may := mayO ns) (fun s p h => mayO_not h) hN h
  have hnx : nst n (mayO ns) k0 (j + 1) = ((nst n (mayO ns) k0 j).1 ||| 2 ^ pk n (mayO ns) (nst n (mayO ns) k0 j).1 (nst n (mayO ns) k0 j).2.1, (nst n (mayO ns) k0 j).2.1 - sumTo (term n (mayO ns) (nst n (mayO ns) k0 j).1) (pk n (mayO ns) (nst n (mayO ns) k0 j).1 (nst n (mayO ns) k0 j).2.1), (nst n (mayO ns) k0 j).2.2 ++ [pk n (mayO ns) (nst n (mayO ns) k0 j).1 (nst n (mayO ns) k0 j).2.1]) := rfl
  have hfin : j = n → nthN n ns k0 = (nst n (mayO ns) k0 j).2.2 := fun h => by rw [h]; rfl
  obtain ⟨hs, hmis, hk, hol⟩ := hN
  generalize nst n (mayO ns) k0 j = q at *
  obtain ⟨s, k, out⟩ := q
  dsimp only at *
  have hrl := rest_le hn (mayO ns) s
  (repeat' (first | refine a_seq ?_ | refine a_block ?_ | refine a_skip ?_ | refine a_ret ?_ | refine a_exit ?_ | refine a_region ?_ | refine l_nil ?_ | (apply w_q; (focus (first | exact Q_move (by conv => lhs; whnf) | exact Q_assign (by conv => lhs; whnf) | exact Q_fieldAddr_ptr rfl KFl.h | exact Q_load_ptr rfl rfl rfl KSc.h | exact Q_lss rfl rfl | exact Q_len_nats rfl KSl.h)); (focus exact rfl)) | (refine a_cond rfl ?_ ?_ <;> (intro h; (try (have hp := of_decide_eq_true h)); (try (have hp := of_decide_eq_false h)); (try contradiction); (try (exfalso; omega)))))); (try all_goals (try show retA _ _ _ _ _ _ _))
  · have hjn : j < n := by omega
    obtain ⟨p1, p2, p3⟩ := pk_spec (hS hjn)
    generalize pk n (mayO ns) s k = p0 at *
    refine w_loop (X := Nat) [2, 7, 30, 31, 34, 35] (by simp only [keepv, getv_cons, Nat.reduceEqDiff, ↓reduceIte]; exact rfl) (fun p => [(1, .val (.int .i64 (k - sumTo (term n (mayO ns) s) p : Nat))), (8, .own 2), (9, .val (.int .i64 s)), (36, .val (.int .i64 (p : Int)))]) (fun _ => [.box [.val (.int .i64 n), ints (nl ns)], .row 3 1 (intc (nl Y)), .row 3 1 (intc (nl out))]) (fun p => p ≤ p0) (fun p => p0 - p) (0) ([0, 1, 2]) ?_ ?_ rfl ?_ <;> (try dsimp only [List.cons_append, List.nil_append])
    · exact Nat.zero_le _
    · rw [show sumTo (term n (mayO ns) s) 0 = 0 from rfl, Nat.sub_zero]
      (refine St.le_mk rfl (VwOs.mk (by decide) ?_) ?_ <;> (repeat' (first | exact trivial | exact vwR rfl | exact Vw.ro _ | exact Vw.own _ _ rfl | exact Vw.ptr _ _ _ rfl | exact VwO.row _ _ _ | refine VwO.box' ?_ | refine ⟨⟨_, rfl, ?_⟩, ?_⟩ | refine ⟨?_, ?_⟩ )))
    rintro p hp
    have c1 := p3 p hp
    have c2 : sumTo (term n (mayO ns) s) (p + 1) = sumTo (term n (mayO ns) s) p + term n (mayO ns) s p := rfl
    have c3 : p < p0 → sumTo (term n (mayO ns) s) (p + 1) ≤ k := fun h => p3 (p + 1) h
    have c4 : term n (mayO ns) s p = if mayO ns s p = true then rest n (mayO ns) (s ||| 2 ^ p) else 0 := rfl
    have c5 : p = p0 → k < sumTo (term n (mayO ns) s) (p + 1) := fun h => by rw [h]; exact p2
    have hor : s ||| 2 ^ p < 2 ^ n := Nat.or_lt_two_pow hs (Nat.pow_lt_pow_right (by decide) (by omega))
    have hY := htg _ hor
    have g3 := vget hv hn p
    have g4 := p2_10 (n := p) (by omega)
    have bz := bit_zero s p
    have bs' := ndiff_sub (ns.getD p 0) s
    have hm : mayO ns s p = (!s.testBit p && sub (ns.getD p 0) s) := rfl
    have hmI : mayO ns s p = true ↔ ((s / 2 ^ p % 2 : Nat) : Int) = 0 ∧ ((ndiff (ns.getD p 0) s : Nat) : Int) = 0 := by
      rw [hm, ← bz, ← bs', Bool.and_eq_true, decide_eq_true_eq, decide_eq_true_eq]
    generalize hU1 : sumTo (term n (mayO ns) s) (p + 1) = U1 at *
    generalize hU : sumTo (term n (mayO ns) s) p = U at *
    generalize term n (mayO ns) s p = tp at *
    by_cases hmay : ((s / 2 ^ p % 2 : Nat) : Int) = 0 ∧ ((ndiff (ns.getD p 0) s : Nat) : Int) = 0
    · rw [if_pos (hmI.2 hmay), ← hY] at c4
      clear hmI bz bs' hm hY
      (repeat' (first | refine a_seq ?_ | refine a_block ?_ | refine a_skip ?_ | refine a_exit ?_ | refine a_region ?_ | refine l_nil ?_ | (apply w_q; (focus (first | exact Q_move (by conv => lhs; whnf) | exact Q_assign (by conv => lhs; whnf) | exact Q_lss rfl rfl | exact Q_geq rfl rfl | exact Q_eql rfl rfl | exact Q_neq rfl rfl | exact Q_add rfl rfl (by omega) | exact Q_shrN rfl rfl (by omega) | exact Q_and1 rfl rfl | exact Q_bit rfl rfl (by omega) | exact Q_sub rfl rfl (by omega) | exact Q_ix_nats rfl rfl rfl KSl.h (by omega) | exact Q_ix_ownN rfl rfl rfl rfl KSl.h (by omega) | exact Q_ld_nats rfl (by omega) KSc.h | exact Q_ld_ownN rfl rfl (by omega) KSc.h | exact Q_pick_f rfl (by assumption) (by conv => lhs; whnf))); (focus exact rfl)) | (refine a_cond rfl ?_ ?_ <;> (intro h; (try (have hp := of_decide_eq_true h)); (try (have hp := of_decide_eq_false h)); (try contradiction); (try (exfalso; omega)))) | refine w_guard_y rfl rfl rfl (by first | assumption | rfl) ?_ | (refine w_guard rfl rfl rfl ?_ ?_ <;> (intro h; (try (have hp := of_decide_eq_true h)); (try (have hp := of_decide_eq_false h)); (try contradiction); (try (exfalso; omega)))) | refine w_ap_nats rfl rfl rfl rfl KSl.h KMk.h (by simp; omega) (by first|(dsimp only[obA,obB,obD,obE,obF,obG,obI,List.map,AO.sh,AV.sh,AV.shl,Nat.reduceAdd];done)|exact rfl) (by first|(dsimp only[obA,obB,obD,obE,obF,obG,obI,List.map,AO.sh,AV.sh,AV.shl,Nat.reduceAdd];done)|exact rfl) rfl ?_ | refine w_lit_nat rfl KSl.h KMk.h (by first|(dsimp only[obA,obB,obD,obE,obF,obG,obI,List.map,AO.sh,AV.sh,AV.shl,Nat.reduceAdd];done)|exact rfl) (by first|(dsimp only[obA,obB,obD,obE,obF,obG,obI,List.map,AO.sh,AV.sh,AV.shl,Nat.reduceAdd];done)|exact rfl) rfl ?_ | (((first | apply w_q); (focus exact Q_andNotN rfl rfl (by omega) (by omega)); (focus exact rfl))) | (((first | apply w_q); (focus exact Q_orN rfl rfl (by omega) (by omega)); (focus exact rfl))))); (try all_goals (try show retA _ _ _ _ _ _ _))
      all_goals first
        | (exfalso; omega)
        | (refine ⟨p + 1, [0, 1, 2], ?_, ?_, ?_, rfl⟩ <;> (try dsimp only); (focus (show p + 1 ≤ p0; omega)); (focus omega); (focus (rw [hU1]; (refine St.le_mk rfl (VwOs.mk (by decide) ?_) ?_ <;> (repeat' (first | exact trivial | exact vwR rfl | exact Vw.ro _ | exact Vw.own _ _ rfl | exact Vw.ptr _ _ _ rfl | (refine Vw.int' ?_; first | rfl | omega | (simp; done)) | exact VwO.row _ _ _ | refine VwO.box' ?_ | refine ⟨⟨_, rfl, ?_⟩, ?_⟩ | refine ⟨?_, ?_⟩ ))))); done)
        | (have hpp : p = p0 := by omega
           subst hpp
           refine ⟨j + 1, [0, 1, 4], ?_, ?_, ?_, rfl⟩ <;> (try dsimp only); (focus omega); (focus omega); (focus (rw [hnx, hU]; dsimp only; (refine St.le_mk rfl (VwOs.mk (by decide) ?_) ?_ <;> (repeat' (first | exact trivial | exact vwR rfl | exact Vw.ro _ | exact Vw.own _ _ rfl | exact Vw.ptr _ _ _ rfl | exact VwO.row _ _ _ | refine VwO.box' ?_ | refine ⟨⟨_, rfl, ?_⟩, ?_⟩ | refine ⟨?_, ?_⟩ ))))); done)
    · rw [if_neg (mt hmI.1 hmay)] at c4
      clear hmI bz bs' hm hY
      (repeat' (first | refine a_seq ?_ | refine a_block ?_ | refine a_skip ?_ | refine a_exit ?_ | refine a_region ?_ | refine l_nil ?_ | (apply w_q; (focus (first | exact Q_move (by conv => lhs; whnf) | exact Q_assign (by conv => lhs; whnf) | exact Q_lss rfl rfl | exact Q_eql rfl rfl | exact Q_neq rfl rfl | exact Q_add rfl rfl (by omega) | exact Q_shrN rfl rfl (by omega) | exact Q_and1 rfl rfl | exact Q_ix_nats rfl rfl rfl KSl.h (by omega) | exact Q_ld_nats rfl (by omega) KSc.h | exact Q_pick_t rfl (by assumption) (by conv => lhs; whnf) | exact Q_pick_f rfl (by assumption) (by conv => lhs; whnf))); (focus exact rfl)) | (refine a_cond rfl ?_ ?_ <;> (intro h; (try (have hp := of_decide_eq_true h)); (try (have hp := of_decide_eq_false h)); (try contradiction); (try (exfalso; omega)))) | refine w_guard_y rfl rfl rfl (by first | assumption | rfl) ?_ | refine w_guard_n rfl rfl rfl (by first | assumption | rfl) ?_ | (refine w_guard rfl rfl rfl ?_ ?_ <;> (intro h; (try (have hp := of_decide_eq_true h)); (try (have hp := of_decide_eq_false h)); (try contradiction); (try (exfalso; omega)))) | (((first | apply w_q); (focus exact Q_andNotN rfl rfl (by omega) (by omega)); (focus exact rfl))))); (try all_goals (try show retA _ _ _ _ _ _ _))
      all_goals first
        | (exfalso; omega)
        | (refine ⟨p + 1, [0, 1, 2], ?_, ?_, ?_, rfl⟩ <;> (try dsimp only); (focus (show p + 1 ≤ p0; omega)); (focus omega); (focus (rw [hU1]; (refine St.le_mk rfl (VwOs.mk (by decide) ?_) ?_ <;> (repeat' (first | exact trivial | exact vwR rfl | exact Vw.ro _ | exact Vw.own _ _ rfl | exact Vw.ptr _ _ _ rfl | (refine Vw.int' ?_; first | rfl | omega | (simp; done)) | exact VwO.row _ _ _ | refine VwO.box' ?_ | refine ⟨⟨_, rfl, ?_⟩, ?_⟩ | refine ⟨?_, ?_⟩ ))))); done)
  · rw [hfin (by omega)]
    refine ⟨[_, _], [2], ⟨resV_tmp (by conv => lhs; whnf), resV_tmp (by conv => lhs; whnf), trivial⟩, VwOs.mk (by decide) ⟨⟨_, rfl, .row _ _ _⟩, trivial⟩, ?_, rfl⟩
    (repeat' (first | exact vwRL rfl | exact Vw.own _ _ rfl | refine Vw.tup' ?_ | refine ⟨?_, ?_⟩ ))
end Go.Proofs.Ytgojkabjgagjcaa
