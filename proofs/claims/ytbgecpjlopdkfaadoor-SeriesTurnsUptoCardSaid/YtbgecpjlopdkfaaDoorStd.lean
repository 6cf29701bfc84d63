import Derived.Test.YtbgecpjlopdkfaaDoorSse
import Derived.Test.YtbgecpjlopdkfaaDoorSsh
import Derived.Test.YtbgecpjlopdkfaaDoorSsi
import Derived.Test.YtbgecpjlopdkfaaDoorStc
import Derived.Test.YtbgecpjlopdkfaaDoorFe
set_option linter.unusedSimpArgs false
set_option linter.unusedVariables false
set_option linter.unusedSectionVars false
set_option maxRecDepth 20000
namespace Go.Proofs.YtbgecpjlopdkfaaDoor
attribute [local irreducible] QOp aL aC qL
/-- The term that Split gives is right, and its order is the order. -/
theorem sp_full {n : Nat} {ns : List Nat} (hok : okB n ns = true) (hn : n ≤ 10) (hv : Vld n ns) {k p : Int} {l : List Tr} (h : spF ns 1025 (2 ^ n - 1) = some (.mk k p l)) :
    (Tr.mk k p l).frm = 0 ∧ (Tr.mk k p l).can = true ∧ (Tr.mk k p l).pts.length = n ∧ 1 + kcnt l ≤ 40 ∧ tck (.mk k p l) = 0 ∧ tOf (.mk k p l) = ns ∧ ∀ x, x ∈ (Tr.mk k p l).pts ↔ ∃ i : Nat, i < n ∧ x = (i : Int) := by
  have hp : 2 ^ n ≤ 1024 := Nat.pow_le_pow_right (n := 2) (by decide) hn
  have hpos := Nat.two_pow_pos n
  have hg := sp_good hok hn 1025 (2 ^ n - 1) _ (by omega) (fun i hi => full_bit.1 hi) h
  have hm : ∀ x, x ∈ (Tr.mk k p l).pts ↔ ∃ i : Nat, i < n ∧ x = (i : Int) := fun x => by
    rw [hg.mem]
    constructor
    · rintro ⟨i, hi, e⟩; exact ⟨i, full_bit.1 hi, e⟩
    · rintro ⟨i, hi, e⟩; exact ⟨i, full_bit.2 hi, e⟩
  have hperm : (Tr.mk k p l).pts.Perm (nl (List.range n)) := (List.perm_ext_iff_of_nodup hg.nd (by
    unfold nl
    exact List.pairwise_map.2 (List.Pairwise.imp (R := fun (a b : Nat) => a ≠ b) (fun {a b : Nat} h (e : (a : Int) = (b : Int)) => absurd (show a = b by omega) h) List.nodup_range))).2 fun x => by
      rw [hm]
      unfold nl
      rw [List.mem_map]
      constructor
      · rintro ⟨i, hi, e⟩; exact ⟨i, List.mem_range.2 hi, e.symm⟩
      · rintro ⟨i, hi, e⟩; exact ⟨i, List.mem_range.1 hi, e.symm⟩
  have hlen : (Tr.mk k p l).pts.length = n := by rw [hperm.length_eq, nl_len, List.length_range]
  have hcnt := hg.cnt
  have ec : (Tr.mk k p l).cnt = 1 + kcnt l := by unfold Tr.cnt; rfl
  rw [ec, hlen] at hcnt
  refine ⟨hg.frm, hg.can, hlen, by omega, ?_, ?_, hm⟩
  · unfold tck
    rw [if_neg (by rw [ec, hlen]; omega), if_neg (by rw [hg.frm]; decide), if_pos (prB_yes fun q hq => (hm q).2 ⟨q, by omega, rfl⟩)]
  · unfold tOf
    rw [hlen]
    exact vld_ext (ofn_vld n _) hv fun a b ha hb => by
      rw [ofn_lt _ ha hb]
      exact hg.less _ (Nat.le_refl _) a b (full_bit.2 ha) (full_bit.2 hb)
end Go.Proofs.YtbgecpjlopdkfaaDoor
set_option linter.unusedSimpArgs false
set_option linter.unusedVariables false
set_option linter.unusedSectionVars false
set_option maxRecDepth 20000
namespace Go.Proofs.YtbgecpjlopdkfaaDoor
attribute [local irreducible] QOp aL aC qL
theorem tOf_ok {t : Tr} (h : tck t = 0) : Vld t.pts.length (tOf t) ∧ okB t.pts.length (tOf t) = true := by
  obtain ⟨_, _, hf, _⟩ := tck_zero h
  obtain ⟨hn, hm⟩ := tck_pts h
  have g := tls_good t.dep t (Nat.le_refl _) hf hn
  have hin : ∀ i : Nat, i < t.pts.length → (i : Int) ∈ t.pts := fun i hi => (hm _).2 ⟨i, hi, rfl⟩
  have hv : Vld t.pts.length (tOf t) := ofn_vld _ _
  refine ⟨hv, okB_all hv.2 fun i hi => ⟨fun j hj k hk => ?_, ?_⟩⟩
  · unfold trip tOf
    rw [ofn_lt _ hj hk, ofn_lt _ hk hi, ofn_lt _ hj hi]
    cases h1 : tls t.dep t j k
    · rfl
    · cases h2 : tls t.dep t k i
      · rfl
      · rw [g.tr _ _ _ (hin j hj) (hin k hk) (hin i hi) h1 h2]; rfl
  · unfold tOf
    rw [ofn_lt _ hi hi]
    exact g.irr _ (hin i hi)
/-- A term's order has no zig. -/
theorem tls_nozig : ∀ (d : Nat) (t : Tr), t.dep ≤ d → t.frm = 0 → t.pts.Nodup → ∀ a b c e, a ∈ t.pts → b ∈ t.pts → c ∈ t.pts → e ∈ t.pts → tls d t a c = true → tls d t b c = true → tls d t b e = true → (a ≠ b ∧ tls d t a b = false ∧ tls d t b a = false) → (tls d t a e = false ∧ tls d t e a = false) → (tls d t c e = false ∧ tls d t e c = false) → False
  | 0, .mk k p l, hd, _, _ => by unfold Tr.dep at hd; omega
  | d + 1, .mk k p l, hd, hf, hn => by
    obtain ⟨h1, h2, h3⟩ := frm_kids hf
    unfold Tr.dep at hd
    intro a b c e ha hb hc he z1 z2 z3 z4 z5 z6
    by_cases hk : k = 1
    · have hl : l = [] := List.length_eq_zero_iff.1 (by omega)
      subst hl
      have ht : ∀ a b, tls (d + 1) (.mk k p []) a b = false := fun a b => by unfold tls; rfl
      rw [ht] at z1; cases z1
    have ep : (Tr.mk k p l).pts = kpts l := by unfold Tr.pts; rw [if_neg hk]
    rw [ep] at hn ha hb hc he
    obtain ⟨i, hi, ha⟩ := kpts_find.1 ha
    obtain ⟨j, hj, hb⟩ := kpts_find.1 hb
    obtain ⟨m, hm, hc⟩ := kpts_find.1 hc
    obtain ⟨q, hq, he⟩ := kpts_find.1 he
    have kk := fun {a b : Int} {i j : Nat} (hi : i < l.length) (hj : j < l.length) (ha : a ∈ (l.getD i t000).pts) (hb : b ∈ (l.getD j t000).pts) => tls_kids (d := d) (k := k) (p := p) hn hi hj ha hb
    have same : i = j ∧ j = m ∧ m = q := by
      by_cases hk3 : k = 3
      · have cmp : ∀ {a b : Int} {i j : Nat}, i < l.length → j < l.length → a ∈ (l.getD i t000).pts → b ∈ (l.getD j t000).pts → tls (d + 1) (.mk k p l) a b = false → tls (d + 1) (.mk k p l) b a = false → i = j := by
          intro a b i j hi hj ha hb y1 y2
          apply Classical.byContradiction
          intro hne
          rw [kk hi hj ha hb, if_neg hne, decide_eq_true hk3, Bool.true_and, decide_eq_false_iff_not] at y1
          rw [kk hj hi hb ha, if_neg (fun e => hne e.symm), decide_eq_true hk3, Bool.true_and, decide_eq_false_iff_not] at y2
          omega
        have e1 := cmp hi hj ha hb z4.2.1 z4.2.2
        have e2 := cmp hi hq ha he z5.1 z5.2
        have e3 := cmp hm hq hc he z6.1 z6.2
        omega
      · have cmp : ∀ {a b : Int} {i j : Nat}, i < l.length → j < l.length → a ∈ (l.getD i t000).pts → b ∈ (l.getD j t000).pts → tls (d + 1) (.mk k p l) a b = true → i = j := by
          intro a b i j hi hj ha hb y1
          apply Classical.byContradiction
          intro hne
          rw [kk hi hj ha hb, if_neg hne, decide_eq_false hk3, Bool.false_and] at y1
          cases y1
        have e1 := cmp hi hm ha hc z1
        have e2 := cmp hj hm hb hc z2
        have e3 := cmp hj hq hb he z3
        omega
    obtain ⟨rfl, rfl, rfl⟩ := same
    rw [kk hi hi ha hc, if_pos rfl] at z1
    rw [kk hi hi hb hc, if_pos rfl] at z2
    rw [kk hi hi hb he, if_pos rfl] at z3
    rw [kk hi hi ha hb, kk hi hi hb ha, if_pos rfl, if_pos rfl] at z4
    rw [kk hi hi ha he, kk hi hi he ha, if_pos rfl, if_pos rfl] at z5
    rw [kk hi hi hc he, kk hi hi he hc, if_pos rfl, if_pos rfl] at z6
    exact tls_nozig d (l.getD i t000) (by have := dep_kidD hi; omega) (by rw [getDT hi]; exact kfrm_get h3 hi) (kpts_ndk hn hi) a b c e ha hb hc he z1 z2 z3 z4 z5 z6
/-- So it can be split. -/
theorem tOf_split {t : Tr} (h : tck t = 0) : ∃ s, spF (tOf t) 1025 (2 ^ t.pts.length - 1) = some s := by
  obtain ⟨_, h10, hf, _⟩ := tck_zero h
  obtain ⟨hn, hm⟩ := tck_pts h
  obtain ⟨hv, hok⟩ := tOf_ok h
  have hin : ∀ i : Nat, i < t.pts.length → (i : Int) ∈ t.pts := fun i hi => (hm _).2 ⟨i, hi, rfl⟩
  have hi := sp_iff hok h10
  have h0 : 0 < t.pts.length := frm_pts t.dep t (Nat.le_refl _) hf
  have hz : qdY t.pts.length (zqQ (tOf t)) = false := by
    rw [Bool.eq_false_iff]
    intro hy
    obtain ⟨a, b, c, e, ha, hb, hc, he, _, hq⟩ := qdY_ex.1 hy
    unfold zqQ apZ tOf at hq
    rw [ofn_lt _ ha hc, ofn_lt _ hb hc, ofn_lt _ hb he, ofn_lt _ ha hb, ofn_lt _ hb ha, ofn_lt _ ha he, ofn_lt _ he ha, ofn_lt _ hc he, ofn_lt _ he hc] at hq
    simp only [Bool.and_eq_true, decide_eq_true_eq, Bool.not_eq_true'] at hq
    obtain ⟨⟨⟨⟨⟨z1, z2⟩, z3⟩, z4⟩, z5⟩, z6⟩ := hq
    exact tls_nozig t.dep t (Nat.le_refl _) hf hn a b c e (hin a ha) (hin b hb) (hin c hc) (hin e he) z1 z2 z3 ⟨by omega, z4.2⟩ z5.2 z6.2
  rw [hz, decide_eq_true h0] at hi
  rcases hs : spF (tOf t) 1025 (2 ^ t.pts.length - 1) with _ | s
  · rw [hs] at hi; cases hi
  · exact ⟨s, rfl⟩
set_option maxRecDepth 20000 in
set_option maxHeartbeats 4000000 in
theorem SRows_ok (k p : Int) (l : List Tr) (hb : 1 + kcnt l ≤ 100000000) (ht : tck (.mk k p l) = 0) : AC Tryd.prog 28 [ta3 k p l] [] (.tup [.val (.int .i64 (rest (Tr.mk k p l).pts.length (mayO (tOf (.mk k p l))) 0 : Nat)), .val (.int .i64 0)]) [] := by
  have k1 := checkT_ac k p l hb
  rw [ht] at k1
  obtain ⟨_, h2, h3, _⟩ := tck_zero ht
  obtain ⟨hn, hm⟩ := tck_pts ht
  have k2 := rowsT_ac (Tr.mk k p l).pts.length h2 (1 + kdep l) k p l (Nat.le_refl _) hb h3 hn (fun x hx => (hm x).1 hx) h2
  have ed : (Tr.mk k p l).dep = 1 + kdep l := by unfold Tr.dep; rfl
  rw [rw_rest ht, ed]
  generalize rwF (1 + kdep l) (.mk k p l) = R at *
  clear hn hm h3 ht ed
  generalize (Tr.mk k p l).pts.length = L at *
  unfold ta3 at *
  refine AC.mk (n := 18) (fn := Tryd.f28) Tryd.func28 (by kernel_rfl) rfl rfl rfl rfl (fun cx => ?_); dsimp only [argv, Nat.reduceAdd]
  (repeat' (first | refine a_seq ?_ | refine a_skip ?_ | refine a_ret ?_ | refine a_region ?_ | refine l_nil ?_ | (apply w_q; (focus (first | exact Q_move (by conv => lhs; whnf) | exact Q_assign (by conv => lhs; whnf) | exact Q_load_all rfl rfl KAg.h | exact Q_neq rfl rfl | exact Q_extract rfl (by conv => lhs; whnf))); (focus exact rfl)) | (refine a_cond rfl ?_ ?_ <;> (intro h; (try (have hp := of_decide_eq_true h)); (try (have hp := of_decide_eq_false h)); (try contradiction); (try (exfalso; omega)))) | refine w_box rfl rfl (by first|(dsimp only[obA,obB,obD,obE,obF,obG,obI,List.map,AO.sh,AV.sh,AV.shl,Nat.reduceAdd];done)|exact rfl) (by first|(dsimp only[obA,obB,obD,obE,obF,obG,obI,List.map,AO.sh,AV.sh,AV.shl,Nat.reduceAdd];done)|exact rfl) rfl ?_ | (((first | apply w_q); (focus (refine Q_call (.inl ⟨rfl, rfl⟩) (k1) ?_; ((repeat' (first | exact trivial | exact vwR rfl | exact Vw.ro _ | refine Vw.agg' ?_ | refine ⟨?_, ?_⟩ )); done))); (focus exact rfl))) | ((refine w_callV (.inl ⟨rfl, rfl⟩) (k2) ?_ (by first | (dsimp only [AV.sh, AV.shl, sh_ints, sh_rows, sh_pairs, sh_ords]; done) | exact rfl) rfl ?_; rotate_left 0; (focus ((repeat' (first | exact trivial | exact Vs.val _ | exact Vs.ro _ | refine Vs.agg' ?_ | refine ⟨?_, ?_⟩)); done)); rotate_left 1; all_goals (try (skip)))))); (try all_goals (try show retA _ _ _ _ _ _ _))
  all_goals first
    | (exfalso; omega)
    | (exfalso; simp_all; done)
    | (refine ⟨[_, _], [], ⟨resV_tmp (by conv => lhs; whnf), resV_tmp (by conv => lhs; whnf), trivial⟩, VwOs.mk (by decide) trivial, ?_, rfl⟩; (repeat' (first | exact vwRL rfl | refine Vw.tup' ?_)); done)
    | (all_goals trace_state); fail
set_option maxRecDepth 20000 in
set_option maxHeartbeats 4000000 in
theorem SRows_err (k p : Int) (l : List Tr) (hb : 1 + kcnt l ≤ 100000000) (ht : tck (.mk k p l) ≠ 0) : AC Tryd.prog 28 [ta3 k p l] [] (.tup [.val (.int .i64 0), .val (.int .i64 (tck (.mk k p l)))]) [] := by
  have k1 := checkT_ac k p l hb
  generalize tck (.mk k p l) = E at *
  unfold ta3 at *
  refine AC.mk (n := 18) (fn := Tryd.f28) Tryd.func28 (by kernel_rfl) rfl rfl rfl rfl (fun cx => ?_); dsimp only [argv, Nat.reduceAdd]
  (repeat' (first | refine a_seq ?_ | refine a_ret ?_ | refine a_region ?_ | refine l_nil ?_ | (apply w_q; (focus (first | exact Q_move (by conv => lhs; whnf) | exact Q_assign (by conv => lhs; whnf) | exact Q_load_all rfl rfl KAg.h | exact Q_neq rfl rfl)); (focus exact rfl)) | (refine a_cond rfl ?_ ?_ <;> (intro h; (try (have hp := of_decide_eq_true h)); (try (have hp := of_decide_eq_false h)); (try contradiction); (try (exfalso; omega)))) | refine w_box rfl rfl (by first|(dsimp only[obA,obB,obD,obE,obF,obG,obI,List.map,AO.sh,AV.sh,AV.shl,Nat.reduceAdd];done)|exact rfl) (by first|(dsimp only[obA,obB,obD,obE,obF,obG,obI,List.map,AO.sh,AV.sh,AV.shl,Nat.reduceAdd];done)|exact rfl) rfl ?_ | (((first | apply w_q); (focus (refine Q_call (.inl ⟨rfl, rfl⟩) (k1) ?_; ((repeat' (first | exact trivial | exact vwR rfl | exact Vw.ro _ | refine Vw.agg' ?_ | refine ⟨?_, ?_⟩ )); done))); (focus exact rfl))))); (try all_goals (try show retA _ _ _ _ _ _ _))
  all_goals first
    | (exfalso; omega)
    | (exfalso; simp_all; done)
    | (refine ⟨[_, _], [], ⟨resV_tmp (by conv => lhs; whnf), resV_tmp (by conv => lhs; whnf), trivial⟩, VwOs.mk (by decide) trivial, ?_, rfl⟩; (repeat' (first | exact vwRL rfl | refine Vw.tup' ?_)); done)
    | (all_goals trace_state); fail
end Go.Proofs.YtbgecpjlopdkfaaDoor
