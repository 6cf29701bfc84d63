import Derived.Test.YtbgecpjlopdkfaaDoorGc
import Derived.Test.YtbgecpjlopdkfaaDoorEngA
import Derived.Test.YtbgecpjlopdkfaaDoorEngZp
set_option linter.unusedSimpArgs false
set_option linter.unusedVariables false
set_option linter.unusedSectionVars false
set_option maxRecDepth 20000
namespace Go.Proofs.YtbgecpjlopdkfaaDoor
attribute [local irreducible] QOp aL aC qL
/-- Is something between two points, below k. -/
def btw (ns : List Nat) (a b k : Nat) : Bool := (List.range k).any fun c => lt ns a c && lt ns c b
def rowTo (f : Nat → Nat → Bool) (a b : Nat) : List (Nat × Nat) := ((List.range b).filter (f a)).map fun b => (a, b)
def prsTo (n : Nat) (f : Nat → Nat → Bool) (a : Nat) : List (Nat × Nat) := (List.range a).flatMap fun a => rowTo f a n
theorem rowTo_succ (f : Nat → Nat → Bool) (a b : Nat) : rowTo f a (b + 1) = if f a b = true then rowTo f a b ++ [(a, b)] else rowTo f a b := by
  unfold rowTo
  rw [List.range_succ, List.filter_append, List.map_append]
  by_cases h : f a b = true <;> simp [List.filter, h]
theorem prsTo_succ (n : Nat) (f : Nat → Nat → Bool) (a : Nat) : prsTo n f (a + 1) = prsTo n f a ++ rowTo f a n := by
  unfold prsTo
  rw [List.range_succ, List.flatMap_append]
  simp
theorem rowTo_len (f : Nat → Nat → Bool) (a b : Nat) : (rowTo f a b).length ≤ b := by
  have := List.length_filter_le (f a) (List.range b)
  rw [List.length_range] at this
  simpa [rowTo] using this
theorem prsTo_len (n : Nat) (f : Nat → Nat → Bool) : ∀ a, (prsTo n f a).length ≤ a * n
  | 0 => by simp [prsTo]
  | a + 1 => by
    have := prsTo_len n f a
    have := rowTo_len f a n
    rw [prsTo_succ, List.length_append, Nat.succ_mul]
    omega
theorem prs_mem {n : Nat} {f : Nat → Nat → Bool} {p : Nat × Nat} : p ∈ prsTo n f n ↔ p.1 < n ∧ p.2 < n ∧ f p.1 p.2 = true := by
  unfold prsTo rowTo
  simp only [List.mem_flatMap, List.mem_range, List.mem_map, List.mem_filter]
  constructor
  · rintro ⟨a, ha, b, ⟨hb, hf⟩, rfl⟩; exact ⟨ha, hb, hf⟩
  · rintro ⟨h1, h2, h3⟩; exact ⟨p.1, h1, p.2, ⟨h2, h3⟩, rfl⟩
/-- The pairs that Pairs tells. -/
def pf (n : Nat) (ns : List Nat) (cv : Bool) (a b : Nat) : Bool := lt ns a b && (!cv || !btw ns a b n)
theorem mul_le10 {a n : Nat} (ha : a ≤ n) (hn : n ≤ 10) : a * n ≤ 100 := Nat.mul_le_mul (Nat.le_trans ha hn) hn
theorem PairsO_ac (n : Nat) (ns : List Nat) (cv : Bool) (hn : n ≤ 10) (hv : Vld n ns) : AC Tryd.prog 110 [ordv n (nl ns), .val (.bool cv)] [] (.own 0) [.row 140 2 (pairc (pn (prsTo n (pf n ns cv) n)))] := by
  have hlen := hv.1
  refine AC.mk (n := 59) (fn := Tryd.f110) Tryd.func110 (by kernel_rfl) rfl rfl rfl rfl (fun cx => ?_); dsimp only [argv, Nat.reduceAdd]
  (repeat' (first | refine a_seq ?_ | refine a_block ?_ | refine a_region ?_ | refine l_nil ?_ | (apply w_q; (focus (first | exact Q_move (by conv => lhs; whnf) | exact Q_assign (by conv => lhs; whnf) | exact Q_fieldAddr_ptr rfl KFl.h | exact Q_load_ptr rfl rfl rfl KSc.h)); (focus exact rfl)) | refine w_box rfl rfl (by first|(dsimp only[obA,obB,obD,obE,obF,obG,obI,List.map,AO.sh,AV.sh,AV.shl,Nat.reduceAdd];done)|exact rfl) (by first|(dsimp only[obA,obB,obD,obE,obF,obG,obI,List.map,AO.sh,AV.sh,AV.shl,Nat.reduceAdd];done)|exact rfl) rfl ?_)); (try all_goals (try show retA _ _ _ _ _ _ _))
  refine w_nilownC 5 140 2 rfl (by first|(dsimp only[obA,obB,obD,obE,obF,obG,obI,List.map,AO.sh,AV.sh,AV.shl,Nat.reduceAdd];done)|exact rfl) rfl ?_
  refine w_loop (X := Nat) [1, 2, 11] (by simp only [keepv, getv_cons, Nat.reduceEqDiff, ↓reduceIte]; exact rfl) (fun a => [(5, .own 1), (12, .val (.int .i64 (a : Int)))]) (fun a => [.box [.val (.int .i64 n), ints (nl ns)], .row 140 2 (pairc (pn (prsTo n (pf n ns cv) a)))]) (fun a => a ≤ n) (fun a => n - a) (0) ([0, 1]) ?_ ?_ rfl ?_ <;> (try dsimp only [List.cons_append, List.nil_append])
  · exact Nat.zero_le _
  · (refine St.le_mk rfl (VwOs.mk (by decide) ?_) ?_ <;> (repeat' (first | exact trivial | exact vwR rfl | exact Vw.ro _ | exact Vw.own _ _ rfl | exact Vw.ptr _ _ _ rfl | exact VwO.row _ _ _ | refine VwO.box' ?_ | refine ⟨⟨_, rfl, ?_⟩, ?_⟩ | refine ⟨?_, ?_⟩ )))
  rintro a ha
  have hl1 := prsTo_len n (pf n ns cv) a
  have hl2 := mul_le10 ha hn
  have hsA := prsTo_succ n (pf n ns cv) a
  have h00 : prsTo n (pf n ns cv) a ++ rowTo (pf n ns cv) a 0 = prsTo n (pf n ns cv) a := by simp [rowTo]
  (repeat' (first | refine a_seq ?_ | refine a_block ?_ | refine a_skip ?_ | refine a_ret ?_ | refine a_exit ?_ | refine a_region ?_ | refine l_nil ?_ | (apply w_q; (focus (first | exact Q_move (by conv => lhs; whnf) | exact Q_assign (by conv => lhs; whnf) | exact Q_fieldAddr_ptr rfl KFl.h | exact Q_load_ptr rfl rfl rfl KSc.h | exact Q_lss rfl rfl)); (focus exact rfl)) | (refine a_cond rfl ?_ ?_ <;> (intro h; (try (have hp := of_decide_eq_true h)); (try (have hp := of_decide_eq_false h)); (try contradiction); (try (exfalso; omega)))))); (try all_goals (try show retA _ _ _ _ _ _ _))
  · refine w_loop (X := Nat) [1, 2, 6, 11, 12, 16] (by simp only [keepv, getv_cons, Nat.reduceEqDiff, ↓reduceIte]; exact rfl) (fun b => [(5, .own 1), (17, .val (.int .i64 (b : Int)))]) (fun b => [.box [.val (.int .i64 n), ints (nl ns)], .row 140 2 (pairc (pn (prsTo n (pf n ns cv) a ++ rowTo (pf n ns cv) a b)))]) (fun b => b ≤ n) (fun b => n - b) (0) ([0, 1]) ?_ ?_ rfl ?_ <;> (try dsimp only [List.cons_append, List.nil_append])
    · exact Nat.zero_le _
    · rw [h00]
      (refine St.le_mk rfl (VwOs.mk (by decide) ?_) ?_ <;> (repeat' (first | exact trivial | exact vwR rfl | exact Vw.ro _ | exact Vw.own _ _ rfl | exact Vw.ptr _ _ _ rfl | exact VwO.row _ _ _ | refine VwO.box' ?_ | refine ⟨⟨_, rfl, ?_⟩, ?_⟩ | refine ⟨?_, ?_⟩ )))
    rintro b hb
    have hl3 := rowTo_len (pf n ns cv) a b
    have hl4 : (pn (prsTo n (pf n ns cv) a ++ rowTo (pf n ns cv) a b)).length ≤ 110 := by rw [pn_len, List.length_append]; omega
    have hsB := rowTo_succ (pf n ns cv) a b
    have hpf : pf n ns cv a b = (lt ns a b && (!cv || !btw ns a b n)) := rfl
    have keep : pf n ns cv a b = false → prsTo n (pf n ns cv) a ++ rowTo (pf n ns cv) a (b + 1) = prsTo n (pf n ns cv) a ++ rowTo (pf n ns cv) a b := fun h => by rw [hsB, if_neg (by rw [h]; decide)]
    have grow : pf n ns cv a b = true → pn (prsTo n (pf n ns cv) a ++ rowTo (pf n ns cv) a (b + 1)) = pn (prsTo n (pf n ns cv) a ++ rowTo (pf n ns cv) a b) ++ [((a : Int), (b : Int))] := fun h => by rw [hsB, if_pos h, ← List.append_assoc, ← pn_app]; rfl
    have fin : b = n → prsTo n (pf n ns cv) (a + 1) = prsTo n (pf n ns cv) a ++ rowTo (pf n ns cv) a b := fun h => by rw [hsA, h]
    generalize prsTo n (pf n ns cv) a ++ rowTo (pf n ns cv) a b = L at *
    (repeat' (first | refine a_seq ?_ | refine a_block ?_ | refine a_skip ?_ | refine a_exit ?_ | refine a_region ?_ | refine l_nil ?_ | (apply w_q; (focus (first | exact Q_move (by conv => lhs; whnf) | exact Q_assign (by conv => lhs; whnf) | exact Q_fieldAddr_ptr rfl KFl.h | exact Q_load_ptr rfl rfl rfl KSc.h | exact Q_load_all rfl rfl KAg.h | exact Q_lss rfl rfl | exact Q_add rfl rfl (by omega) | exact Q_not rfl)); (focus exact rfl)) | (refine a_cond rfl ?_ ?_ <;> (intro h; (try (have hp := of_decide_eq_true h)); (try (have hp := of_decide_eq_false h)); (try contradiction); (try (exfalso; omega)))) | (((first | apply w_q); (focus (refine Q_call (.inl ⟨rfl, rfl⟩) (Lower_ac n ns a b (by omega) (by omega)) ?_; ((repeat' (first | exact trivial | exact vwR rfl | exact vwRL rfl | exact Vw.ro _ | refine Vw.agg' ?_ | refine ⟨?_, ?_⟩ )); done))); (focus exact rfl))))); (try all_goals (try show retA _ _ _ _ _ _ _))
    · refine ⟨b + 1, [0, 1], ?_, ?_, ?_, rfl⟩ <;> (try dsimp only)
      · omega
      · omega
      · rw [keep (by rw [hpf]; unfold lt; simp_all)]
        (refine St.le_mk rfl (VwOs.mk (by decide) ?_) ?_ <;> (repeat' (first | exact trivial | exact vwR rfl | exact Vw.ro _ | exact Vw.own _ _ rfl | exact Vw.ptr _ _ _ rfl | exact VwO.row _ _ _ | refine VwO.box' ?_ | refine ⟨⟨_, rfl, ?_⟩, ?_⟩ | refine ⟨?_, ?_⟩ )))
    · refine w_loop (X := Nat) [1, 2, 5, 6, 7, 11, 12, 16, 17, 26] (by simp only [keepv, getv_cons, Nat.reduceEqDiff, ↓reduceIte]; exact rfl) (fun c => [(8, .val (.bool (btw ns a b c))), (27, .val (.int .i64 (c : Int)))]) (fun _ => [.box [.val (.int .i64 n), ints (nl ns)], .row 140 2 (pairc (pn L))]) (fun c => c ≤ n) (fun c => n - c) (0) ([0, 1]) ?_ ?_ rfl ?_ <;> (try dsimp only [List.cons_append, List.nil_append])
      · exact Nat.zero_le _
      · (refine St.le_mk rfl (VwOs.mk (by decide) ?_) ?_ <;> (repeat' (first | exact trivial | exact vwR rfl | exact Vw.ro _ | exact Vw.own _ _ rfl | exact Vw.ptr _ _ _ rfl | exact VwO.row _ _ _ | refine VwO.box' ?_ | refine ⟨⟨_, rfl, ?_⟩, ?_⟩ | refine ⟨?_, ?_⟩ )))
      rintro c hc
      have hbs : btw ns a b (c + 1) = (btw ns a b c || (lt ns a c && lt ns c b)) := any_succ _ c
      (repeat' (first | refine a_seq ?_ | refine a_block ?_ | refine a_skip ?_ | refine a_exit ?_ | refine a_region ?_ | refine l_nil ?_ | (apply w_q; (focus (first | exact Q_move (by conv => lhs; whnf) | exact Q_assign (by conv => lhs; whnf) | exact Q_load_all rfl rfl KAg.h | exact Q_lss rfl rfl | exact Q_add rfl rfl (by omega) | exact Q_build2 KBd.h (by conv => lhs; whnf) (by conv => lhs; whnf) rfl rfl rfl (by simp only [List.map_cons, List.map_nil, List.take_succ_cons, List.take_zero, List.drop_succ_cons, List.drop_zero, List.drop_nil, List.nil_append, List.cons_append, List.append_nil, List.length_cons, List.length_nil, Nat.reduceAdd, Nat.reduceMul]; exact rfl) (by conv => lhs; whnf) (by conv => lhs; whnf) rfl rfl rfl (by simp only [List.map_cons, List.map_nil, List.take_succ_cons, List.take_zero, List.drop_succ_cons, List.drop_zero, List.drop_nil, List.nil_append, List.cons_append, List.append_nil, List.length_cons, List.length_nil, Nat.reduceAdd, Nat.reduceMul]; exact rfl) | exact Q_not rfl | exact Q_pick_t rfl (by assumption) (by conv => lhs; whnf) | exact Q_pick_f rfl (by assumption) (by conv => lhs; whnf))); (focus exact rfl)) | (refine a_cond rfl ?_ ?_ <;> (intro h; (try (have hp := of_decide_eq_true h)); (try (have hp := of_decide_eq_false h)); (try contradiction); (try (exfalso; omega)))) | refine w_guard_u rfl rfl rfl ?_ | refine w_guard_y rfl rfl rfl (by first | assumption | rfl) ?_ | refine w_guard_n rfl rfl rfl (by first | assumption | rfl) ?_ | (refine w_guard rfl rfl rfl ?_ ?_ <;> (intro h; (try (have hp := of_decide_eq_true h)); (try (have hp := of_decide_eq_false h)); (try contradiction); (try (exfalso; omega)))) | refine w_lit_pair rfl KSl.h KMk.h (by first|(dsimp only[obA,obB,obD,obE,obF,obG,obI,List.map,AO.sh,AV.sh,AV.shl,Nat.reduceAdd];done)|exact rfl) (by first|(dsimp only[obA,obB,obD,obE,obF,obG,obI,List.map,AO.sh,AV.sh,AV.shl,Nat.reduceAdd];done)|exact rfl) rfl ?_ | refine w_ap_pairs rfl rfl rfl rfl KSl.h KMk.h (by simp; omega) (by first|(dsimp only[obA,obB,obD,obE,obF,obG,obI,List.map,AO.sh,AV.sh,AV.shl,Nat.reduceAdd];done)|exact rfl) (by first|(dsimp only[obA,obB,obD,obE,obF,obG,obI,List.map,AO.sh,AV.sh,AV.shl,Nat.reduceAdd];done)|exact rfl) rfl ?_ | (((first | apply w_q); (focus (refine Q_call (.inl ⟨rfl, rfl⟩) (Lower_ac n ns a c (by omega) (by omega)) ?_; ((repeat' (first | exact trivial | exact vwR rfl | exact vwRL rfl | exact Vw.ro _ | refine Vw.agg' ?_ | refine ⟨?_, ?_⟩ )); done))); (focus exact rfl))) | (((first | apply w_q); (focus (refine Q_call (.inl ⟨rfl, rfl⟩) (Lower_ac n ns c b (by omega) (by omega)) ?_; ((repeat' (first | exact trivial | exact vwR rfl | exact vwRL rfl | exact Vw.ro _ | refine Vw.agg' ?_ | refine ⟨?_, ?_⟩ )); done))); (focus exact rfl))))); (try all_goals (try show retA _ _ _ _ _ _ _))
      all_goals first
        | (refine ⟨c + 1, [0, 1], ?_, ?_, ?_, rfl⟩ <;> (try dsimp only); (focus omega); (focus omega); (focus (rw [hbs]; unfold lt; simp_all; (refine St.le_mk rfl (VwOs.mk (by decide) ?_) ?_ <;> (repeat' (first | exact trivial | exact vwR rfl | exact Vw.ro _ | exact Vw.own _ _ rfl | exact Vw.ptr _ _ _ rfl | exact VwO.row _ _ _ | refine VwO.box' ?_ | refine ⟨⟨_, rfl, ?_⟩, ?_⟩ | refine ⟨?_, ?_⟩ ))))); done)
        | (obtain rfl : c = n := by omega
           first
           | (refine ⟨b + 1, [0, 1], ?_, ?_, ?_, rfl⟩ <;> (try dsimp only); (focus omega); (focus omega); (focus (rw [keep (by rw [hpf]; unfold lt; simp_all)]; (refine St.le_mk rfl (VwOs.mk (by decide) ?_) ?_ <;> (repeat' (first | exact trivial | exact vwR rfl | exact Vw.ro _ | exact Vw.own _ _ rfl | exact Vw.ptr _ _ _ rfl | exact VwO.row _ _ _ | refine VwO.box' ?_ | refine ⟨⟨_, rfl, ?_⟩, ?_⟩ | refine ⟨?_, ?_⟩ ))))); done)
           | (refine ⟨b + 1, [0, 3], ?_, ?_, ?_, rfl⟩ <;> (try dsimp only); (focus omega); (focus omega); (focus (rw [grow (by rw [hpf]; unfold lt; simp_all)]; (refine St.le_mk rfl (VwOs.mk (by decide) ?_) ?_ <;> (repeat' (first | exact trivial | exact vwR rfl | exact Vw.ro _ | exact Vw.own _ _ rfl | exact Vw.ptr _ _ _ rfl | exact VwO.row _ _ _ | refine VwO.box' ?_ | refine ⟨⟨_, rfl, ?_⟩, ?_⟩ | refine ⟨?_, ?_⟩ ))))); done))
        | skip
    · obtain rfl : b = n := by omega
      refine ⟨a + 1, [0, 1], ?_, ?_, ?_, rfl⟩ <;> (try dsimp only)
      · omega
      · omega
      · rw [fin rfl]
        (refine St.le_mk rfl (VwOs.mk (by decide) ?_) ?_ <;> (repeat' (first | exact trivial | exact vwR rfl | exact Vw.ro _ | exact Vw.own _ _ rfl | exact Vw.ptr _ _ _ rfl | exact VwO.row _ _ _ | refine VwO.box' ?_ | refine ⟨⟨_, rfl, ?_⟩, ?_⟩ | refine ⟨?_, ?_⟩ )))
  · obtain rfl : a = n := by omega
    refine ⟨[_], [1], ⟨resV_tmp (by conv => lhs; whnf), trivial⟩, VwOs.mk (by decide) ⟨⟨_, rfl, .row _ _ _⟩, trivial⟩, ?_, rfl⟩
    (repeat' (first | exact Vw.own _ _ rfl))
theorem Pairs_ac (n : Nat) (ns : List Nat) (cv : Bool) (hn : n ≤ 10) (hv : Vld n ns) : AC Tryd.prog 110 [ordv n (nl ns), .val (.bool cv)] [] (pairs (pn (prsTo n (pf n ns cv) n))) [] := AC.vw0 (PairsO_ac n ns cv hn hv) (by (repeat' (first | exact Vw.rowro _ _ _ _ rfl (by decide))))
end Go.Proofs.YtbgecpjlopdkfaaDoor
