/- The tables of an order: the reference's word, and that both say the same. -/
import Derived.Test.YtjpjmcfhhjdkpaaDoorKq
import Derived.Test.YtjpjmcfhhjdkpaaDoorJn
set_option linter.unusedSimpArgs false
set_option linter.unusedVariables false
set_option maxRecDepth 20000
namespace Go.Proofs.YtjpjmcfhhjdkpaaDoor
attribute [local irreducible] QOp aL aC qL
theorem grT_none' {u : Nat → Nat → Bool} {L : List Nat} : ∀ {k : Nat}, grT u L k = none → ∀ i, i < k → grB u L (L.getD i 0) = false
  | 0, _, i, hi => absurd hi (by omega)
  | k + 1, h, i, hi => by
    rw [grT] at h
    cases hf : grT u L k with
    | some a => rw [hf] at h; cases h
    | none =>
      rw [hf] at h
      dsimp only at h
      by_cases hik : i = k
      · subst hik
        cases hg : grB u L (L.getD i 0)
        · rfl
        · rw [hg, if_pos rfl] at h; cases h
      · exact grT_none' hf i (by omega)
theorem grB_iff {u : Nat → Nat → Bool} {L : List Nat} {p : Nat} : grB u L p = true ↔ ∀ q, q ∈ L → q ≠ p → u q p = true := by
  unfold grB
  rw [Bool.not_eq_true', List.any_eq_false]
  constructor
  · intro h q hq hne
    have h1 := h q hq
    cases hu : u q p
    · exact absurd (by rw [hu, decide_eq_true (show p ≠ q from fun e => hne e.symm)]; rfl) h1
    · rfl
  · intro h q hq h1
    rw [Bool.and_eq_true, decide_eq_true_eq, Bool.not_eq_true'] at h1
    rw [h q hq fun e => h1.1 e.symm] at h1
    cases h1.2
theorem ts_mem {n : Nat} (hn : n ≤ 10) {u : Nat → Nat → Bool} {x y p : Nat} : p ∈ mbs (bs (tsP u x y) n) ↔ p < n ∧ tsP u x y p = true := by
  have h1 := bs_lt (tsP u x y) n
  have h2 : 2 ^ n ≤ 1024 := p2_10 hn
  rw [mbs_mem (by omega), bs_bit, Bool.and_eq_true, decide_eq_true_eq]
theorem ts_le {n : Nat} (hn : n ≤ 10) (u : Nat → Nat → Bool) (x y : Nat) : (tsF n u x y).getD n ≤ n ∧ ((tsF n u x y).getD n < n ↔ (tsF n u x y).isSome = true) := by
  cases hf : tsF n u x y with
  | none => exact ⟨Nat.le_refl _, fun h => absurd h (Nat.lt_irrefl _), fun h => by cases h⟩
  | some p =>
    have h1 := (ts_mem hn).1 (grT_mem (Nat.le_refl _) hf).1
    exact ⟨Nat.le_of_lt h1.1, fun _ => rfl, fun _ => h1.1⟩
theorem gl_ts {n : Nat} (hn : n ≤ 10) {u V : Nat → Nat → Bool} (hV : ∀ a b, V a b = true ↔ (a = b ∨ u a b = true)) (ha : ∀ a b, a < n → b < n → u a b = true → u b a = true → False) {x y z : Nat} (hz : z < n) : glB n V x y z = decide (z = (tsF n u x y).getD n) := by
  have hts : ∀ p, tsP u x y p = (V p x && V p y) := fun p => by
    unfold tsP
    rw [Bool.eq_iff_iff]
    simp only [Bool.and_eq_true, Bool.or_eq_true, decide_eq_true_eq, hV]
  have hmem : ∀ p, p ∈ mbs (bs (tsP u x y) n) ↔ p < n ∧ V p x = true ∧ V p y = true := fun p => by rw [ts_mem hn, hts, Bool.and_eq_true]
  have key : glB n V x y z = true ↔ z ∈ mbs (bs (tsP u x y) n) ∧ grB u (mbs (bs (tsP u x y) n)) z = true := by
    unfold glB
    rw [Bool.and_eq_true, Bool.and_eq_true, acc_iff, hmem, grB_iff]
    constructor
    · rintro ⟨h1, h2⟩
      refine ⟨⟨hz, h1⟩, fun q hq hne => ?_⟩
      obtain ⟨q1, q2, q3⟩ := (hmem q).1 hq
      have h3 := h2 q q1
      rw [q2, q3] at h3
      exact ((hV q z).1 (by simpa using h3)).resolve_left hne
    · rintro ⟨⟨_, h1⟩, h2⟩
      refine ⟨h1, fun w hw => ?_⟩
      cases e1 : V w x
      · rfl
      · cases e2 : V w y
        · rfl
        · have : V w z = true := (hV w z).2 (by
            by_cases hwz : w = z
            · exact .inl hwz
            · exact .inr (h2 w ((hmem w).2 ⟨hw, e1, e2⟩) hwz))
          rw [this]; rfl
  cases hf : tsF n u x y with
  | none =>
    cases hg : glB n V x y z
    · exact (decide_eq_false (fun h => by have : z = n := h; omega)).symm
    · obtain ⟨k1, k2⟩ := key.1 hg
      obtain ⟨i, hi, hiz⟩ := List.getElem_of_mem k1
      have := grT_none' hf i hi
      rw [List.getD_eq_getElem?_getD, List.getElem?_eq_getElem hi] at this
      rw [show (some (mbs (bs (tsP u x y) n))[i]).getD 0 = z from hiz, k2] at this
      cases this
  | some p =>
    obtain ⟨p1, p2⟩ := grT_mem (Nat.le_refl _) hf
    have hpn := ((hmem p).1 p1).1
    rw [Bool.eq_iff_iff, key, decide_eq_true_eq]
    constructor
    · rintro ⟨k1, k2⟩
      show z = p
      by_cases hzp : z = p
      · exact hzp
      · exact (ha z p hz hpn (grB_iff.1 p2 z k1 hzp) (grB_iff.1 k2 p p1 fun e => hzp e.symm)).elim
    · intro e
      have e : z = p := e
      subst e
      exact ⟨p1, p2⟩
theorem tb_eq {n : Nat} {u : Nat → Nat → Bool} (h : tbOk n u = true) : tn (tbT n (fun x y => (tsF n u x y).getD n) n) = tgT n u n := by
  rw [tbOk_iff] at h
  unfold tn tbT tgT
  rw [List.map_map]
  refine List.map_congr_left fun x hx => ?_
  have hx := List.mem_range.1 hx
  show nl (rwT _ x n) = nl (tgR n u x n)
  congr 1
  unfold rwT tgR
  refine List.map_congr_left fun y hy => ?_
  have := h x hx y (List.mem_range.1 hy)
  show (tsF n u x y).getD n = (tsF n u x y).getD 0
  cases hf : tsF n u x y with
  | none => rw [hf] at this; cases this
  | some p => rfl
theorem lt_tb {n : Nat} (hn : n ≤ 10) (u v : Nat → Nat → Bool) : ltOk n (fun x y => (tsF n u x y).getD n) (fun x y => (tsF n v x y).getD n) = (tbOk n u && tbOk n v) := by
  rw [Bool.eq_iff_iff, ltOk_iff, Bool.and_eq_true, tbOk_iff, tbOk_iff]
  constructor
  · intro h
    exact ⟨fun x hx y hy => (ts_le hn u x y).2.1 (h x hx y hy).1, fun x hx y hy => (ts_le hn v x y).2.1 (h x hx y hy).2⟩
  · rintro ⟨h1, h2⟩ x hx y hy
    exact ⟨(ts_le hn u x y).2.2 (h1 x hx y hy), (ts_le hn v x y).2.2 (h2 x hx y hy)⟩
def tblR (b : Bool) (n : Nat) (m w : List (List Int)) : AV := .tup [latA ((bif b then n else 0 : Nat) : Int) (bif b then m else []) (bif b then w else []), .val (.bool b)]
theorem RTab1_ac (n : Nat) (ns : List Nat) (hn : n ≤ 10) (hv : Vld n ns) (a b : Nat) (ha : a < n) (hb : b < n) :
    AC Tryd.prog 53 [.val (.int .i64 a), .val (.int .i64 b), .rpt [.val (.int .i64 n), .sl 1 (intc (nl ns))] 0] [] (.val (.bool (decide (a = b) || lt ns a b))) [] := by
  have hlen := hv.1
  have h2 : 2 ^ n ≤ 1024 := p2_10 hn
  have k : AC Tryd.prog 54 [ordv n (nl ns), .val (.int .i64 a), .val (.int .i64 b)] [] (.val (.bool (decide (a = b) || lt ns a b))) [] := Upto_ac n ns a b (by omega) (by omega) (fun x hx => by have := hv.2 x hx; omega)
  generalize (decide (a = b) || lt ns a b) = c at k ⊢
  refine AC.mk (n := 10) (fn := Tryd.f53) Tryd.func53 (by kernel_rfl) rfl rfl rfl rfl (fun cx => ?_); dsimp only [argv, Nat.reduceAdd]
  (repeat' (first | refine a_seq ?_ | refine a_block ?_ | refine a_skip ?_ | refine a_ret ?_ | refine a_exit ?_ | refine a_region ?_ | refine l_nil ?_ | (apply w_q; (focus (first | exact Q_move (by conv => lhs; whnf) | exact Q_assign (by conv => lhs; whnf) | exact Q_load_ptr rfl rfl rfl KSc.h | exact Q_load_all rfl rfl KAg.h | exact Q_ld_rpa rfl KAg.h rfl rfl (by first | (dsimp only [List.drop_zero, List.drop_succ_cons, List.take_succ_cons, List.take_zero, List.map, ofD]; done) | exact rfl) | exact Q_ld_rv rfl rfl KSc.h | exact Q_ld_rs rfl rfl KSc.h | exact Q_ld_nats rfl (by omega) KSc.h | exact Q_ld_ints rfl (by omega) KSc.h | exact Q_ld_ownN rfl rfl (by omega) KSc.h | exact Q_ld_own rfl rfl (by omega) KSc.h | exact Q_ld_rows rfl (by omega) KSc.h | exact Q_ld_pair1N rfl (by omega) KSc.h | exact Q_ld_pair2N rfl (by omega) KSc.h | exact Q_ld_pair1 rfl (by omega) KSc.h | exact Q_ld_pair2 rfl (by omega) KSc.h | exact Q_ld_pairN rfl (by omega) KAg.h | exact Q_ld_pair rfl (by omega) KAg.h | exact Q_ld_ord rfl (by omega) KAg.h | exact Q_ld_ownb rfl rfl (by omega) KSc.h)); (focus exact rfl)) | (((first | apply w_q | apply w_qq); (focus (refine Q_call (.inl ⟨rfl, rfl⟩) (k) ?_; ((repeat' (first | exact trivial | exact vwR rfl | exact vwRL rfl | exact Vw.val _ | exact Vw.ro _ | exact Vw.any _ | exact Vw.valro _ | exact Vw.own _ _ rfl | exact Vw.ptr _ _ _ rfl | exact Vw.rpt _ _ | exact Vw.nilro _ | exact Vw.rowro _ _ _ _ rfl (by decide) | exact Vw.rowro2 rfl (by decide) (by with_unfolding_all exact rfl) | refine Vw.agg' ?_ | refine Vw.tup' ?_ | refine Vw.clo' ?_ | refine Vw.boxrpt' rfl (by decide) ?_ | exact Nat.le_of_ble_eq_true rfl | refine ⟨?_, ?_⟩ )); done))); (focus exact rfl))))); (try all_goals (try show retA _ _ _ _ _ _ _))
  refine ⟨[_], [], ⟨resV_tmp (by conv => lhs; whnf), trivial⟩, VwOs.mk (by decide) trivial, ?_, rfl⟩
  (repeat' (first | exact trivial | exact vwR rfl | exact vwRL rfl | exact Vw.val _ | exact Vw.ro _ | exact Vw.any _ | exact Vw.valro _ | exact Vw.own _ _ rfl | exact Vw.ptr _ _ _ rfl | exact Vw.rpt _ _ | exact Vw.nilro _ | exact Vw.rowro _ _ _ _ rfl (by decide) | exact Vw.rowro2 rfl (by decide) (by with_unfolding_all exact rfl) | refine Vw.agg' ?_ | refine Vw.tup' ?_ | refine Vw.clo' ?_ | refine Vw.boxrpt' rfl (by decide) ?_ | exact Nat.le_of_ble_eq_true rfl | refine ⟨?_, ?_⟩ ))
set_option maxRecDepth 20000 in
set_option maxHeartbeats 4000000 in
theorem RTables_ac (n : Nat) (ns : List Nat) (hn : n ≤ 10) (hv : Vld n ns) (hok : okB n ns = true) : AC Tryd.prog 20 [ordv n (nl ns)] [] (tblR (latB n ns) n (tgT n (lt ns) n) (tgT n (fun a b => lt ns b a) n)) [] := by
  have hasym : ∀ a b, a < n → b < n → lt ns a b = true → lt ns b a = true → False := fun a b ha hb h1 h2 => by
    have h3 := okB_tr hok hb ha h1 h2
    rw [okB_irr hok hb] at h3
    cases h3
  have kL := LatticeOfG_ac n (fun a b => decide (a = b) || lt ns a b) (by omega) (isFn_clo 53 [.rpt [.val (.int .i64 n), .sl 1 (intc (nl ns))] 0]) rfl (fun a b ha hb => RTab1_ac n ns hn hv a b ha hb)
    (fun x y => (tsF n (lt ns) x y).getD n) (fun x y => (tsF n (fun a b => lt ns b a) x y).getD n)
    (fun x y hx hy => ⟨(ts_le hn _ x y).1, fun z hz => gl_ts hn (fun a b => by simp) hasym hz⟩)
    (fun x y hx hy => ⟨(ts_le hn _ x y).1, fun z hz => gl_ts (V := fun a b => decide (b = a) || lt ns b a) hn (fun a b => by show (decide (b = a) || lt ns b a) = true ↔ (a = b ∨ lt ns b a = true); rw [Bool.or_eq_true, decide_eq_true_eq]; exact or_congr eq_comm Iff.rfl) (fun a b ha hb h1 h2 => hasym a b ha hb h2 h1) hz⟩)
  rw [lt_tb hn] at kL
  have hcas : (latB n ns = false ∧ (tbOk n (lt ns) && tbOk n fun a b => lt ns b a) = false) ∨ (latB n ns = false ∧ (tbOk n (lt ns) && tbOk n fun a b => lt ns b a) = true ∧ n = 0) ∨ (latB n ns = true ∧ (tbOk n (lt ns) && tbOk n fun a b => lt ns b a) = true ∧ 0 < n ∧ tn (tbT n (fun x y => (tsF n (lt ns) x y).getD n) n) = tgT n (lt ns) n ∧ tn (tbT n (fun x y => (tsF n (fun a b => lt ns b a) x y).getD n) n) = tgT n (fun a b => lt ns b a) n) := by
    unfold latB
    cases h1 : (tbOk n (lt ns) && tbOk n fun a b => lt ns b a)
    · exact .inl ⟨rfl, rfl⟩
    · by_cases h2 : n = 0
      · exact .inr (.inl ⟨by rw [decide_eq_false (fun h => h h2)]; rfl, rfl, h2⟩)
      · rw [Bool.and_eq_true] at h1
        exact .inr (.inr ⟨by rw [decide_eq_true h2]; rfl, rfl, by omega, tb_eq h1.1, tb_eq h1.2⟩)
  generalize latB n ns = B at hcas ⊢
  generalize (tbOk n (lt ns) && tbOk n fun a b => lt ns b a) = B2 at hcas kL
  generalize tn (tbT n (fun x y => (tsF n (lt ns) x y).getD n) n) = m at hcas kL
  generalize tn (tbT n (fun x y => (tsF n (fun a b => lt ns b a) x y).getD n) n) = w at hcas kL
  generalize tgT n (lt ns) n = m2 at hcas ⊢
  generalize tgT n (fun a b => lt ns b a) n = w2 at hcas ⊢
  have hR : (∃ N' m' w', ltR B2 n m w = .tup [.agg [.val (.int .i64 N'), rows m', rows w'], .val (.bool false)] ∧ B = false) ∨ (ltR B2 n m w = .tup [.agg [.val (.int .i64 (n : Int)), rows m2, rows w2], .val (.bool true)] ∧ B = true) := by
    rcases hcas with ⟨h1, h2⟩ | ⟨h1, h2, h3⟩ | ⟨h1, h2, h3, h4, h5⟩
    · exact .inl ⟨_, _, _, by rw [h2]; rfl, h1⟩
    · exact .inl ⟨_, _, _, by rw [h2, h3]; rfl, h1⟩
    · refine .inr ⟨?_, h1⟩
      rw [h2, h4, h5]
      unfold ltR
      rw [decide_eq_true (show (n : Int) > 0 by omega)]
      rfl
  clear hcas hasym
  rcases hR with ⟨N', m', w', e, hB⟩ | ⟨e, hB⟩
  all_goals
    rw [e] at kL
    rw [hB]
    clear e hB
    refine AC.mk (n := 17) (fn := Tryd.f20) Tryd.func20 (by kernel_rfl) rfl rfl rfl rfl (fun cx => ?_); dsimp only [argv, Nat.reduceAdd]
    (repeat' (first | refine a_seq ?_ | refine a_block ?_ | refine a_skip ?_ | refine a_ret ?_ | refine a_exit ?_ | refine a_region ?_ | refine l_nil ?_ | (apply w_q; (focus (first | exact Q_move (by conv => lhs; whnf) | exact Q_assign (by conv => lhs; whnf) | exact Q_fieldAddr_ptr rfl KFl.h | exact Q_fieldAddr_rpt rfl KFl.h | exact Q_load_ptr rfl rfl rfl KSc.h | exact Q_load_all rfl rfl KAg.h | exact Q_ld_rpa rfl KAg.h rfl rfl (by first | (dsimp only [List.drop_zero, List.drop_succ_cons, List.take_succ_cons, List.take_zero, List.map, ofD]; done) | exact rfl) | exact Q_ld_rv rfl rfl KSc.h | exact Q_ld_rs rfl rfl KSc.h | exact Q_ld_nats rfl (by omega) KSc.h | exact Q_ld_ints rfl (by omega) KSc.h | exact Q_ld_ownN rfl rfl (by omega) KSc.h | exact Q_ld_own rfl rfl (by omega) KSc.h | exact Q_ld_rows rfl (by omega) KSc.h | exact Q_ld_pair1N rfl (by omega) KSc.h | exact Q_ld_pair2N rfl (by omega) KSc.h | exact Q_ld_pair1 rfl (by omega) KSc.h | exact Q_ld_pair2 rfl (by omega) KSc.h | exact Q_ld_pairN rfl (by omega) KAg.h | exact Q_ld_pair rfl (by omega) KAg.h | exact Q_build0 KBd.h (by simp only [List.map_cons, List.map_nil, List.take_succ_cons, List.take_zero, List.drop_succ_cons, List.drop_zero, List.drop_nil, List.nil_append, List.cons_append, List.append_nil, List.length_cons, List.length_nil, Nat.reduceAdd, Nat.reduceMul]; exact rfl) | exact Q_build1 KBd.h (by conv => lhs; whnf) (by conv => lhs; whnf) rfl rfl rfl (by simp only [List.map_cons, List.map_nil, List.take_succ_cons, List.take_zero, List.drop_succ_cons, List.drop_zero, List.drop_nil, List.nil_append, List.cons_append, List.append_nil, List.length_cons, List.length_nil, Nat.reduceAdd, Nat.reduceMul]; exact rfl) | exact Q_build2 KBd.h (by conv => lhs; whnf) (by conv => lhs; whnf) rfl rfl rfl (by simp only [List.map_cons, List.map_nil, List.take_succ_cons, List.take_zero, List.drop_succ_cons, List.drop_zero, List.drop_nil, List.nil_append, List.cons_append, List.append_nil, List.length_cons, List.length_nil, Nat.reduceAdd, Nat.reduceMul]; exact rfl) (by conv => lhs; whnf) (by conv => lhs; whnf) rfl rfl rfl (by simp only [List.map_cons, List.map_nil, List.take_succ_cons, List.take_zero, List.drop_succ_cons, List.drop_zero, List.drop_nil, List.nil_append, List.cons_append, List.append_nil, List.length_cons, List.length_nil, Nat.reduceAdd, Nat.reduceMul]; exact rfl) | exact Q_build3 KBd.h (by conv => lhs; whnf) (by conv => lhs; whnf) rfl rfl rfl (by simp only [List.map_cons, List.map_nil, List.take_succ_cons, List.take_zero, List.drop_succ_cons, List.drop_zero, List.drop_nil, List.nil_append, List.cons_append, List.append_nil, List.length_cons, List.length_nil, Nat.reduceAdd, Nat.reduceMul]; exact rfl) (by conv => lhs; whnf) (by conv => lhs; whnf) rfl rfl rfl (by simp only [List.map_cons, List.map_nil, List.take_succ_cons, List.take_zero, List.drop_succ_cons, List.drop_zero, List.drop_nil, List.nil_append, List.cons_append, List.append_nil, List.length_cons, List.length_nil, Nat.reduceAdd, Nat.reduceMul]; exact rfl) (by conv => lhs; whnf) (by conv => lhs; whnf) rfl rfl rfl (by simp only [List.map_cons, List.map_nil, List.take_succ_cons, List.take_zero, List.drop_succ_cons, List.drop_zero, List.drop_nil, List.nil_append, List.cons_append, List.append_nil, List.length_cons, List.length_nil, Nat.reduceAdd, Nat.reduceMul]; exact rfl) | exact Q_ld_ord rfl (by omega) KAg.h | exact Q_ld_ownb rfl rfl (by omega) KSc.h | exact Q_extract rfl (by conv => lhs; whnf) | exact Q_extract_v rfl (by conv => lhs; whnf) | exact Q_not rfl | exact Q_fun | exact Q_clo1 (by conv => lhs; whnf) | exact Q_clo2 (by conv => lhs; whnf) (by conv => lhs; whnf) | exact Q_clo3 (by conv => lhs; whnf) (by conv => lhs; whnf) (by conv => lhs; whnf) | exact Q_clo4 (by conv => lhs; whnf) (by conv => lhs; whnf) (by conv => lhs; whnf) (by conv => lhs; whnf) | exact Q_clo5 (by conv => lhs; whnf) (by conv => lhs; whnf) (by conv => lhs; whnf) (by conv => lhs; whnf) (by conv => lhs; whnf) | exact Q_clo6 (by conv => lhs; whnf) (by conv => lhs; whnf) (by conv => lhs; whnf) (by conv => lhs; whnf) (by conv => lhs; whnf) (by conv => lhs; whnf) | exact Q_clo)); (focus exact rfl)) | (refine a_cond rfl ?_ ?_ <;> (intro h; (try (have hp := of_decide_eq_true h)); (try (have hp := of_decide_eq_false h)); (try contradiction); (try (exfalso; omega)))) | refine w_box rfl rfl (by first|(dsimp only[obA,obB,obD,obE,obF,obG,obI,List.map,AO.sh,AV.sh,AV.shl,Nat.reduceAdd];done)|exact rfl) (by first|(dsimp only[obA,obB,obD,obE,obF,obG,obI,List.map,AO.sh,AV.sh,AV.shl,Nat.reduceAdd];done)|exact rfl) rfl ?_ | refine w_box1 (by conv => lhs; whnf) rfl rfl (by first|(dsimp only[obA,obB,obD,obE,obF,obG,obI,List.map,AO.sh,AV.sh,AV.shl,Nat.reduceAdd];done)|exact rfl) (by first|(dsimp only[obA,obB,obD,obE,obF,obG,obI,List.map,AO.sh,AV.sh,AV.shl,Nat.reduceAdd];done)|exact rfl) rfl ?_ | refine w_alloc KMk.h (by first|(dsimp only[obA,obB,obD,obE,obF,obG,obI,List.map,AO.sh,AV.sh,AV.shl,Nat.reduceAdd];done)|exact rfl) rfl (by first|(dsimp only[obA,obB,obD,obE,obF,obG,obI,List.map,AO.sh,AV.sh,AV.shl,Nat.reduceAdd];done)|exact rfl) (by first|(dsimp only[obA,obB,obD,obE,obF,obG,obI,List.map,AO.sh,AV.sh,AV.shl,Nat.reduceAdd];done)|exact rfl) rfl ?_ | refine w_store rfl rfl rfl (by conv => lhs; whnf) rfl KSz.h (by first|(dsimp only[obA,obB,obD,obE,obF,obG,obI,List.map,AO.sh,AV.sh,AV.shl,Nat.reduceAdd];done)|exact rfl) (by first|(dsimp only[obA,obB,obD,obE,obF,obG,obI,List.map,AO.sh,AV.sh,AV.shl,Nat.reduceAdd];done)|exact rfl) ?_ | refine w_store_all rfl rfl rfl rfl rfl KSz.h (by first|(dsimp only[obA,obB,obD,obE,obF,obG,obI,List.map,AO.sh,AV.sh,AV.shl,Nat.reduceAdd];done)|exact rfl) ?_ | refine w_st_nats rfl rfl rfl KSz.h (by omega) (by first|(dsimp only[obA,obB,obD,obE,obF,obG,obI,List.map,AO.sh,AV.sh,AV.shl,Nat.reduceAdd];done)|exact rfl) ?_ | refine w_st_ints rfl rfl rfl KSz.h (by omega) (by first|(dsimp only[obA,obB,obD,obE,obF,obG,obI,List.map,AO.sh,AV.sh,AV.shl,Nat.reduceAdd];done)|exact rfl) ?_ | refine w_st_bools rfl rfl rfl KSz.h (by omega) (by first|(dsimp only[obA,obB,obD,obE,obF,obG,obI,List.map,AO.sh,AV.sh,AV.shl,Nat.reduceAdd];done)|exact rfl) ?_ | ((refine w_freezeB 0 [.val (.int .i64 n), .sl 1 (intc (nl ns))] rfl rfl (by simp only [fbv_nil, fbv_cons, fbl_nil, fbl_cons, fbo_nil, fbo_cons, fbo_box, fbo_row, fbo_gone, fb_own, fb_val, fb_ro, fb_rpt, fb_ptr, fb_ept, fb_agg, fb_tup, fb_clo, fb_ints, fb_rows, fb_pairs, fb_ords, Nat.reduceEqDiff, ↓reduceIte, List.set_cons_zero, List.set_cons_succ]; exact rfl) (by simp only [fbv_nil, fbv_cons, fbl_nil, fbl_cons, fbo_nil, fbo_cons, fbo_box, fbo_row, fbo_gone, fb_own, fb_val, fb_ro, fb_rpt, fb_ptr, fb_ept, fb_agg, fb_tup, fb_clo, fb_ints, fb_rows, fb_pairs, fb_ords, Nat.reduceEqDiff, ↓reduceIte, List.set_cons_zero, List.set_cons_succ]; exact rfl) ?_; (refine w_callV (.inl ⟨rfl, rfl⟩) (kL) ?_ (by first | (dsimp only [AV.sh, AV.shl, sh_ints, sh_rows, sh_pairs, sh_ords]; done) | exact rfl) rfl ?_; rotate_left 0; (focus ((repeat' (first | exact trivial | exact Vs.val _ | exact Vs.ro _ | exact Vs.rpt _ _ | exact Vs.valro _ | exact Vs.nilro _ | exact Vs.any _ | refine Vs.agg' ?_ | refine Vs.tup' ?_ | refine Vs.clo' ?_ | refine ⟨?_, ?_⟩)); done)); rotate_left 1; all_goals (try (skip))))))); (try all_goals (try show retA _ _ _ _ _ _ _))
    all_goals
      refine ⟨[_, _], [], ⟨resV_cell rfl rfl KAg.h, resV_tmp (by conv => lhs; whnf), trivial⟩, VwOs.mk (by decide) trivial, ?_, rfl⟩
      (repeat' (first | exact trivial | exact vwR rfl | exact vwRL rfl | exact Vw.val _ | exact Vw.ro _ | exact Vw.any _ | exact Vw.valro _ | exact Vw.own _ _ rfl | exact Vw.ptr _ _ _ rfl | exact Vw.rpt _ _ | exact Vw.nilro _ | exact Vw.rowro _ _ _ _ rfl (by decide) | exact Vw.rowro2 rfl (by decide) (by with_unfolding_all exact rfl) | refine Vw.agg' ?_ | refine Vw.tup' ?_ | refine Vw.clo' ?_ | refine Vw.boxrpt' rfl (by decide) ?_ | exact Nat.le_of_ble_eq_true rfl | refine ⟨?_, ?_⟩ ))
end Go.Proofs.YtjpjmcfhhjdkpaaDoor
