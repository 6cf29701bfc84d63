import Derived.Test.YtjepdcfiogjmgaaGj
import Derived.Test.YtjepdcfiogjmgaaJo
import Derived.Test.YtjepdcfiogjmgaaJn
import Derived.Test.YtjepdcfiogjmgaaKl
import Derived.Test.YtjepdcfiogjmgaaFm
import Derived.Test.YtjepdcfiogjmgaaEngZm
import Derived.Test.YtjepdcfiogjmgaaEngA
set_option linter.unusedSimpArgs false
set_option linter.unusedVariables false
set_option maxRecDepth 20000
namespace Go.Proofs.Ytjepdcfiogjmgaa
attribute [local irreducible] QOp aL aC qL
def coT (t m : Nat) (ns : List Nat) (k : Nat) : List Nat := (List.range k).filter fun s => decide (thingsN ns (marksN m ns s) = s)
theorem con_coT (t m : Nat) (ns : List Nat) : ∀ k, conTo m ns k = (coT t m ns k).map fun s => (s, marksN m ns s)
  | 0 => rfl
  | k + 1 => by
    rw [conTo, con_coT t m ns k]
    unfold coT
    rw [List.range_succ, List.filter_append, List.map_append]
    by_cases h : thingsN ns (marksN m ns k) = k
    · rw [if_pos h]; simp [List.filter, h]
    · rw [if_neg h]; simp [List.filter, h]
def coS (t m : Nat) (ns : List Nat) : List Nat := coT t m ns (2 ^ t)
theorem con_len (t m : Nat) (ns : List Nat) : (conN t m ns).length = (coS t m ns).length := by unfold conN coS; rw [con_coT t m ns, List.length_map]
theorem con_get {t m : Nat} {ns : List Nat} {i : Nat} (hi : i < (coS t m ns).length) : (conN t m ns).getD i (0, 0) = ((coS t m ns).getD i 0, marksN m ns ((coS t m ns).getD i 0)) := by
  unfold conN coS at *
  rw [con_coT t m ns, List.getD_eq_getElem?_getD, List.getElem?_map, List.getElem?_eq_getElem hi, List.getD_eq_getElem?_getD, List.getElem?_eq_getElem hi]
  rfl
theorem co_get {t m : Nat} {ns : List Nat} {i : Nat} (hi : i < (coS t m ns).length) : (coS t m ns).getD i 0 < 2 ^ t ∧ thingsN ns (marksN m ns ((coS t m ns).getD i 0)) = (coS t m ns).getD i 0 := by
  have := rng_get (fun s => decide (thingsN ns (marksN m ns s) = s)) (2 ^ t) hi
  exact ⟨this.1, of_decide_eq_true this.2⟩
theorem co_at {t m : Nat} {ns : List Nat} {s : Nat} (hs : s < 2 ^ t) (h : thingsN ns (marksN m ns s) = s) : ∃ i, i < (coS t m ns).length ∧ (coS t m ns).getD i 0 = s :=
  rng_at (p := fun s => decide (thingsN ns (marksN m ns s) = s)) hs (decide_eq_true h)
theorem things_lt {t m : Nat} {ns : List Nat} (hc : Ctx t m ns) (q : Nat) : thingsN ns q < 2 ^ t := by
  unfold thingsN; rw [hc.len]; exact thingsTo_lt ns q t
theorem marks_lt (m : Nat) (ns : List Nat) (s : Nat) : marksN m ns s < 2 ^ m := marksTo_lt m ns s ns.length
theorem things_anti {t m : Nat} {ns : List Nat} (hc : Ctx t m ns) {a b : Nat} (h : sub a b = true) : sub (thingsN ns b) (thingsN ns a) = true := sub_iff.2 fun i hi => by
  rw [things_bit hc] at hi ⊢
  exact ⟨hi.1, fun j hj => hi.2 j (sub_iff.1 h j hj)⟩
theorem marks_up {t m : Nat} {ns : List Nat} (hc : Ctx t m ns) {q : Nat} (hq : q < 2 ^ m) : sub q (marksN m ns (thingsN ns q)) = true := sub_iff.2 fun j hj => by
  rw [marks_bit hc]
  refine ⟨?_, fun i _ hi => ((things_bit hc q i).1 hi).2 j hj⟩
  rcases Nat.lt_or_ge j m with h1 | h1
  · exact h1
  · rw [Nat.testBit_lt_two_pow (Nat.lt_of_lt_of_le hq (Nat.pow_le_pow_right (n := 2) (by decide) h1))] at hj; cases hj
theorem things_idem {t m : Nat} {ns : List Nat} (hc : Ctx t m ns) {q : Nat} (hq : q < 2 ^ m) : thingsN ns (marksN m ns (thingsN ns q)) = thingsN ns q :=
  sub_eq (things_anti hc (marks_up hc hq)) (gal_up hc (things_lt hc q))
def coJ (m : Nat) (ns : List Nat) (a b : Nat) : Nat := thingsN ns (marksN m ns a &&& marksN m ns b)
theorem sub_trC {a b c : Nat} (h1 : sub a b = true) (h2 : sub b c = true) : sub a c = true := sub_iff.2 fun i hi => sub_iff.1 h2 i (sub_iff.1 h1 i hi)
theorem co_StJ {t m : Nat} {ns : List Nat} (hc : Ctx t m ns) : StJ (coS t m ns) (coJ m ns) := by
  have hand : ∀ a b, marksN m ns a &&& marksN m ns b < 2 ^ m := fun a b => Nat.lt_of_le_of_lt Nat.and_le_left (marks_lt m ns a)
  refine ⟨fun i j hi hj h => rng_one (fun s => decide (thingsN ns (marksN m ns s) = s)) (2 ^ t) hi hj h, fun i j hi hj => ?_, fun i j hi hj => ?_, fun i j z hi hj hz => ?_⟩
  · obtain ⟨a1, a2⟩ := co_get hi
    obtain ⟨b1, b2⟩ := co_get hj
    have hlt := Nat.lt_of_le_of_lt (Nat.and_le_left (n := (coS t m ns).getD i 0) (m := (coS t m ns).getD j 0)) a1
    refine co_at hlt (sub_eq (sub_land.2 ⟨?_, ?_⟩) (gal_up hc hlt))
    · have h1 := things_anti hc (marks_anti hc (sub_land.1 (sub_rfl ((coS t m ns).getD i 0 &&& (coS t m ns).getD j 0))).1)
      rw [a2] at h1; exact h1
    · have h1 := things_anti hc (marks_anti hc (sub_land.1 (sub_rfl ((coS t m ns).getD i 0 &&& (coS t m ns).getD j 0))).2)
      rw [b2] at h1; exact h1
  · exact co_at (things_lt hc _) (things_idem hc (hand _ _))
  · obtain ⟨a1, a2⟩ := co_get hi
    obtain ⟨b1, b2⟩ := co_get hj
    obtain ⟨z1, z2⟩ := co_get hz
    constructor
    · intro h
      refine ⟨sub_trC ?_ h, sub_trC ?_ h⟩
      · have h1 := things_anti hc (sub_land.1 (sub_rfl (marksN m ns ((coS t m ns).getD i 0) &&& marksN m ns ((coS t m ns).getD j 0)))).1
        rw [a2] at h1; exact h1
      · have h1 := things_anti hc (sub_land.1 (sub_rfl (marksN m ns ((coS t m ns).getD i 0) &&& marksN m ns ((coS t m ns).getD j 0)))).2
        rw [b2] at h1; exact h1
    · rintro ⟨h1, h2⟩
      have h3 := things_anti hc (sub_land.2 ⟨marks_anti hc h1, marks_anti hc h2⟩)
      rw [z2] at h3; exact h3
/-! Where a pair stands. -/
theorem IndexP_ac {cl : AV} {g : FuncId} {caps : List AV} [VwR cl] [VwRL caps] (hcl : IsFn cl g caps) (p : Nat × Nat → Bool) (l : List (Nat × Nat)) (hl : l.length ≤ 9223372036854775807)
    (hg : ∀ x ∈ l, AC Try.prog g (.agg [.val (.int .i64 (x.1 : Nat)), .val (.int .i64 (x.2 : Nat))] :: caps) [] (.val (.bool (p x))) []) : AC Try.prog 72 [pairs (pn l), cl] [] (.val (.int .i64 (idx p l))) [] := by
  refine AC.mk (n := 19) (fn := Try.f72) Try.func72 (by kernel_rfl) rfl rfl rfl rfl (fun cx => ?_); dsimp only [argv, Nat.reduceAdd]
  (repeat' (first | refine a_seq ?_ | refine a_block ?_ | refine a_skip ?_ | refine a_ret ?_ | refine a_exit ?_ | refine a_region ?_ | refine l_nil ?_ | (apply w_q; (focus (first | exact Q_move (by conv => lhs; whnf) | exact Q_assign (by conv => lhs; whnf) | exact Q_load_ptr rfl rfl rfl KSc.h | exact Q_load_all rfl rfl KAg.h | exact Q_lss rfl rfl | exact Q_add rfl rfl (by omega) | exact Q_ix_nats rfl rfl rfl KSl.h (by omega) | exact Q_ix_ints rfl rfl rfl KSl.h (by omega) | exact Q_ix_ownN rfl rfl rfl rfl KSl.h (by omega) | exact Q_ix_own rfl rfl rfl rfl KSl.h (by omega) | exact Q_ix_rows rfl rfl rfl KSl.h (by omega) | exact Q_ix_pairsN rfl rfl rfl KSl.h (by omega) | exact Q_ix_pairs rfl rfl rfl KSl.h (by omega) | exact Q_ix_ords rfl rfl rfl KSl.h (by omega) | exact Q_ix_ownb rfl rfl rfl rfl KSl.h (by omega) | exact Q_ix_arr rfl rfl rfl KAr.h (by first | decide | omega) | exact Q_ix_arp rfl rfl rfl KAr.h (by first | decide | omega) | exact Q_ld_rpa rfl KAg.h rfl rfl (by first | (dsimp only [List.drop_zero, List.drop_succ_cons, List.take_succ_cons, List.take_zero, List.map, ofD]; done) | exact rfl) | exact Q_ld_rv rfl rfl KSc.h | exact Q_ld_rs rfl rfl KSc.h | exact Q_ld_nats rfl (by omega) KSc.h | exact Q_ld_ints rfl (by omega) KSc.h | exact Q_ld_ownN rfl rfl (by omega) KSc.h | exact Q_ld_own rfl rfl (by omega) KSc.h | exact Q_ld_rows rfl (by omega) KSc.h | exact Q_ld_pair1N rfl (by omega) KSc.h | exact Q_ld_pair2N rfl (by omega) KSc.h | exact Q_ld_pair1 rfl (by omega) KSc.h | exact Q_ld_pair2 rfl (by omega) KSc.h | exact Q_ld_pairN rfl (by omega) KAg.h | exact Q_ld_pair rfl (by omega) KAg.h | exact Q_ld_ord rfl (by omega) KAg.h | exact Q_ld_ownb rfl rfl (by omega) KSc.h | exact Q_len_nats rfl KSl.h | exact Q_len_ints rfl KSl.h | exact Q_len_ownN rfl rfl KSl.h | exact Q_len_own' rfl rfl KSl.h | exact Q_len_rows rfl KSl.h | exact Q_len_pairsN rfl KSl.h | exact Q_len_pairs rfl KSl.h | exact Q_len_ords rfl KSl.h | exact Q_len_nil' rfl KSl.h | exact Q_len_ownp rfl rfl KSl.h)); (focus exact rfl)) | (refine a_cond rfl ?_ ?_ <;> (intro h; (try (have hp := of_decide_eq_true h)); (try (have hp := of_decide_eq_false h)); (try contradiction); (try (exfalso; omega)))))); (try all_goals (try show retA _ _ _ _ _ _ _))
  refine w_loop (X := Nat) [0, 1, 7] (by simp only [keepv, getv_cons, Nat.reduceEqDiff, ↓reduceIte]; exact rfl) (fun k => [(8, .val (.int .i64 (k : Int)))]) (fun k => []) (fun k => k ≤ l.length ∧ ∀ i (h : i < l.length), i < k → p l[i] = false) (fun k => l.length - k) (0) ([]) ?_ ?_ rfl ?_ <;> (try dsimp only [List.cons_append, List.nil_append])
  · exact ⟨Nat.zero_le _, fun _ _ h => by omega⟩
  · (refine St.le_mk rfl (VwOs.mk (by decide) ?_) ?_ <;> (repeat' (first | exact trivial | exact vwR rfl | exact Vw.val _ | exact Vw.ro _ | exact Vw.any _ | exact Vw.own _ _ rfl | exact Vw.ptr _ _ _ rfl | exact Vw.rpt _ _ | exact Vw.valro _ | exact Vw.nilro _ | exact Vw.rowro _ _ _ _ rfl (by decide) | (refine Vw.int' ?_; first | rfl | omega | (simp; done)) | (refine Vw.bool' ?_; first | rfl | (simp; done)) | refine Vw.agg' ?_ | refine Vw.tup' ?_ | refine Vw.clo' ?_ | exact VwO.row _ _ _ | refine VwO.box' ?_ | exact VwO.gone _ | exact VwO.mat _ _ _ | refine ⟨⟨_, rfl, ?_⟩, ?_⟩ | refine ⟨?_, ?_⟩ )))
  rintro k ⟨hk, h0⟩
  (repeat' (first | refine a_seq ?_ | refine a_block ?_ | refine a_skip ?_ | refine a_ret ?_ | refine a_exit ?_ | refine a_region ?_ | refine l_nil ?_ | (apply w_q; (focus (first | exact Q_move (by conv => lhs; whnf) | exact Q_assign (by conv => lhs; whnf) | exact Q_load_ptr rfl rfl rfl KSc.h | exact Q_load_all rfl rfl KAg.h | exact Q_lss rfl rfl | exact Q_add rfl rfl (by omega) | exact Q_ix_nats rfl rfl rfl KSl.h (by omega) | exact Q_ix_ints rfl rfl rfl KSl.h (by omega) | exact Q_ix_ownN rfl rfl rfl rfl KSl.h (by omega) | exact Q_ix_own rfl rfl rfl rfl KSl.h (by omega) | exact Q_ix_rows rfl rfl rfl KSl.h (by omega) | exact Q_ix_pairsN rfl rfl rfl KSl.h (by omega) | exact Q_ix_pairs rfl rfl rfl KSl.h (by omega) | exact Q_ix_ords rfl rfl rfl KSl.h (by omega) | exact Q_ix_ownb rfl rfl rfl rfl KSl.h (by omega) | exact Q_ix_arr rfl rfl rfl KAr.h (by first | decide | omega) | exact Q_ix_arp rfl rfl rfl KAr.h (by first | decide | omega) | exact Q_ld_rpa rfl KAg.h rfl rfl (by first | (dsimp only [List.drop_zero, List.drop_succ_cons, List.take_succ_cons, List.take_zero, List.map, ofD]; done) | exact rfl) | exact Q_ld_rv rfl rfl KSc.h | exact Q_ld_rs rfl rfl KSc.h | exact Q_ld_nats rfl (by omega) KSc.h | exact Q_ld_ints rfl (by omega) KSc.h | exact Q_ld_ownN rfl rfl (by omega) KSc.h | exact Q_ld_own rfl rfl (by omega) KSc.h | exact Q_ld_rows rfl (by omega) KSc.h | exact Q_ld_pair1N rfl (by omega) KSc.h | exact Q_ld_pair2N rfl (by omega) KSc.h | exact Q_ld_pair1 rfl (by omega) KSc.h | exact Q_ld_pair2 rfl (by omega) KSc.h | exact Q_ld_pairN rfl (by omega) KAg.h | exact Q_ld_pair rfl (by omega) KAg.h | exact Q_ld_ord rfl (by omega) KAg.h | exact Q_ld_ownb rfl rfl (by omega) KSc.h | exact Q_len_nats rfl KSl.h | exact Q_len_ints rfl KSl.h | exact Q_len_ownN rfl rfl KSl.h | exact Q_len_own' rfl rfl KSl.h | exact Q_len_rows rfl KSl.h | exact Q_len_pairsN rfl KSl.h | exact Q_len_pairs rfl KSl.h | exact Q_len_ords rfl KSl.h | exact Q_len_nil' rfl KSl.h | exact Q_len_ownp rfl rfl KSl.h)); (focus exact rfl)) | (refine a_cond rfl ?_ ?_ <;> (intro h; (try (have hp := of_decide_eq_true h)); (try (have hp := of_decide_eq_false h)); (try contradiction); (try (exfalso; omega)))) | (((first | apply w_q | apply w_qq); (focus (refine Q_call (by exact callee_of (hcl) rfl) (hg (l.getD k (0, 0)) (by rw [getD_of (by omega)]; exact List.getElem_mem _)) ?_; ((repeat' (first | exact trivial | exact vwR rfl | exact vwRL rfl | exact Vw.val _ | exact Vw.ro _ | exact Vw.any _ | exact Vw.valro _ | exact Vw.own _ _ rfl | exact Vw.ptr _ _ _ rfl | exact Vw.rpt _ _ | exact Vw.nilro _ | exact Vw.rowro _ _ _ _ rfl (by decide) | exact Vw.rowro2 rfl (by decide) (by with_unfolding_all exact rfl) | refine Vw.agg' ?_ | refine Vw.tup' ?_ | refine Vw.clo' ?_ | refine Vw.boxrpt' rfl (by decide) ?_ | exact Nat.le_of_ble_eq_true rfl | refine ⟨?_, ?_⟩ )); done))); (focus exact rfl))))); (try all_goals (try show retA _ _ _ _ _ _ _))
  · refine ⟨[_], [], ⟨resV_tmp (by conv => lhs; whnf), trivial⟩, VwOs.mk (by decide) trivial, ?_, rfl⟩
    exact Vw.int' (idx_some (by omega) h0 (by rw [← getD_of (by omega) (0, 0)]; assumption)).symm
  · refine ⟨k + 1, [], ?_, ?_, ?_, rfl⟩ <;> (try dsimp only)
    · refine ⟨by omega, fun i hi hik => ?_⟩
      by_cases hq : i = k
      · subst hq
        rw [← getD_of hi (0, 0)]; assumption
      · exact h0 i hi (by omega)
    · omega
    · (refine St.le_mk rfl (VwOs.mk (by decide) ?_) ?_ <;> (repeat' (first | exact trivial | exact vwR rfl | exact Vw.val _ | exact Vw.ro _ | exact Vw.any _ | exact Vw.own _ _ rfl | exact Vw.ptr _ _ _ rfl | exact Vw.rpt _ _ | exact Vw.valro _ | exact Vw.nilro _ | exact Vw.rowro _ _ _ _ rfl (by decide) | (refine Vw.int' ?_; first | rfl | omega | (simp; done)) | (refine Vw.bool' ?_; first | rfl | (simp; done)) | refine Vw.agg' ?_ | refine Vw.tup' ?_ | refine Vw.clo' ?_ | exact VwO.row _ _ _ | refine VwO.box' ?_ | exact VwO.gone _ | exact VwO.mat _ _ _ | refine ⟨⟨_, rfl, ?_⟩, ?_⟩ | refine ⟨?_, ?_⟩ )))
  · refine ⟨[_], [], ⟨resV_tmp (by conv => lhs; whnf), trivial⟩, VwOs.mk (by decide) trivial, ?_, rfl⟩
    exact Vw.int' (idx_none fun i hi => h0 i hi (by omega)).symm
theorem CL11_ac (a b s : Nat) : AC Try.prog 73 [.agg [.val (.int .i64 a), .val (.int .i64 b)], .rpt [.val (.int .i64 s)] 0] [] (.val (.bool (decide (a = s)))) [] := by
  refine AC.mk (n := 8) (fn := Try.f73) Try.func73 (by kernel_rfl) rfl rfl rfl rfl (fun cx => ?_); dsimp only [argv, Nat.reduceAdd]
  (repeat' (first | refine a_seq ?_ | refine a_block ?_ | refine a_skip ?_ | refine a_ret ?_ | refine a_exit ?_ | refine a_region ?_ | refine l_nil ?_ | (apply w_q; (focus (first | exact Q_assign (by conv => lhs; whnf) | exact Q_load_ptr rfl rfl rfl KSc.h | exact Q_load_all rfl rfl KAg.h | exact Q_eql rfl rfl | exact Q_eqlB rfl rfl KBo.h | exact Q_ix_nats rfl rfl rfl KSl.h (by omega) | exact Q_ix_ints rfl rfl rfl KSl.h (by omega) | exact Q_ix_ownN rfl rfl rfl rfl KSl.h (by omega) | exact Q_ix_own rfl rfl rfl rfl KSl.h (by omega) | exact Q_ix_rows rfl rfl rfl KSl.h (by omega) | exact Q_ix_pairsN rfl rfl rfl KSl.h (by omega) | exact Q_ix_pairs rfl rfl rfl KSl.h (by omega) | exact Q_ix_ords rfl rfl rfl KSl.h (by omega) | exact Q_ix_ownb rfl rfl rfl rfl KSl.h (by omega) | exact Q_ix_arr rfl rfl rfl KAr.h (by first | decide | omega) | exact Q_ix_arp rfl rfl rfl KAr.h (by first | decide | omega) | exact Q_ld_rpa rfl KAg.h rfl rfl (by first | (dsimp only [List.drop_zero, List.drop_succ_cons, List.take_succ_cons, List.take_zero, List.map, ofD]; done) | exact rfl) | exact Q_ld_rv rfl rfl KSc.h | exact Q_ld_rs rfl rfl KSc.h | exact Q_ld_nats rfl (by omega) KSc.h | exact Q_ld_ints rfl (by omega) KSc.h | exact Q_ld_ownN rfl rfl (by omega) KSc.h | exact Q_ld_own rfl rfl (by omega) KSc.h | exact Q_ld_rows rfl (by omega) KSc.h | exact Q_ld_pair1N rfl (by omega) KSc.h | exact Q_ld_pair2N rfl (by omega) KSc.h | exact Q_ld_pair1 rfl (by omega) KSc.h | exact Q_ld_pair2 rfl (by omega) KSc.h | exact Q_ld_pairN rfl (by omega) KAg.h | exact Q_ld_pair rfl (by omega) KAg.h | exact Q_eqlP rfl rfl inferInstance | exact Q_ld_ord rfl (by omega) KAg.h | exact Q_ld_ownb rfl rfl (by omega) KSc.h)); (focus exact rfl)) | refine w_box rfl rfl (by first|(dsimp only[obA,obB,obD,obE,obF,obG,obI,List.map,AO.sh,AV.sh,AV.shl,Nat.reduceAdd];done)|exact rfl) (by first|(dsimp only[obA,obB,obD,obE,obF,obG,obI,List.map,AO.sh,AV.sh,AV.shl,Nat.reduceAdd];done)|exact rfl) rfl ?_ | refine w_box1 (by conv => lhs; whnf) rfl rfl (by first|(dsimp only[obA,obB,obD,obE,obF,obG,obI,List.map,AO.sh,AV.sh,AV.shl,Nat.reduceAdd];done)|exact rfl) (by first|(dsimp only[obA,obB,obD,obE,obF,obG,obI,List.map,AO.sh,AV.sh,AV.shl,Nat.reduceAdd];done)|exact rfl) rfl ?_)); (try all_goals (try show retA _ _ _ _ _ _ _))
  refine ⟨[_], [], ⟨resV_tmp (by conv => lhs; whnf), trivial⟩, VwOs.mk (by decide) trivial, ?_, rfl⟩
  exact Vw.bool' (decide_eq_decide.2 (by omega))
theorem idx_con {t m : Nat} {ns : List Nat} (s : Nat) : idx (fun x : Nat × Nat => decide (x.1 = s)) (conN t m ns) = plc (coS t m ns) s := by
  unfold plc nl conN coS
  rw [con_coT t m ns]
  generalize coT t m ns (2 ^ t) = S
  unfold idx
  rw [List.findIdx?_map, List.findIdx?_map]
  congr 1
  congr 1
  funext x
  exact decide_eq_decide.2 (by show x = s ↔ (x : Int) = (s : Int); omega)
theorem CL1_ac (t m : Nat) (ns : List Nat) (s : Nat) (hl : (conN t m ns).length ≤ 9223372036854775807) : AC Try.prog 71 [.val (.int .i64 s), .rpt [.sl 2 (pairc (pn (conN t m ns)))] 0] [] (.val (.int .i64 (plc (coS t m ns) s))) [] := by
  have k := IndexP_ac (isFn_clo 73 [.rpt [.val (.int .i64 s)] 0]) (fun x => decide (x.1 = s)) (conN t m ns) hl (fun x _ => CL11_ac x.1 x.2 s)
  rw [idx_con] at k
  generalize plc (coS t m ns) s = v at *
  generalize conN t m ns = L at *
  refine AC.mk (n := 7) (fn := Try.f71) Try.func71 (by kernel_rfl) rfl rfl rfl rfl (fun cx => ?_); dsimp only [argv, Nat.reduceAdd]
  (repeat' (first | refine a_seq ?_ | refine a_block ?_ | refine a_skip ?_ | refine a_ret ?_ | refine a_exit ?_ | refine a_region ?_ | refine l_nil ?_ | (apply w_q; (focus (first | exact Q_assign (by conv => lhs; whnf) | exact Q_load_ptr rfl rfl rfl KSc.h | exact Q_load_all rfl rfl KAg.h | exact Q_ld_rpa rfl KAg.h rfl rfl (by first | (dsimp only [List.drop_zero, List.drop_succ_cons, List.take_succ_cons, List.take_zero, List.map, ofD]; done) | exact rfl) | exact Q_ld_rv rfl rfl KSc.h | exact Q_ld_rs rfl rfl KSc.h | exact Q_ld_nats rfl (by omega) KSc.h | exact Q_ld_ints rfl (by omega) KSc.h | exact Q_ld_ownN rfl rfl (by omega) KSc.h | exact Q_ld_own rfl rfl (by omega) KSc.h | exact Q_ld_rows rfl (by omega) KSc.h | exact Q_ld_pair1N rfl (by omega) KSc.h | exact Q_ld_pair2N rfl (by omega) KSc.h | exact Q_ld_pair1 rfl (by omega) KSc.h | exact Q_ld_pair2 rfl (by omega) KSc.h | exact Q_ld_pairN rfl (by omega) KAg.h | exact Q_ld_pair rfl (by omega) KAg.h | exact Q_ld_ord rfl (by omega) KAg.h | exact Q_ld_ownb rfl rfl (by omega) KSc.h | exact Q_fun | exact Q_clo1 (by conv => lhs; whnf) | exact Q_clo2 (by conv => lhs; whnf) (by conv => lhs; whnf) | exact Q_clo3 (by conv => lhs; whnf) (by conv => lhs; whnf) (by conv => lhs; whnf) | exact Q_clo4 (by conv => lhs; whnf) (by conv => lhs; whnf) (by conv => lhs; whnf) (by conv => lhs; whnf) | exact Q_clo5 (by conv => lhs; whnf) (by conv => lhs; whnf) (by conv => lhs; whnf) (by conv => lhs; whnf) (by conv => lhs; whnf) | exact Q_clo6 (by conv => lhs; whnf) (by conv => lhs; whnf) (by conv => lhs; whnf) (by conv => lhs; whnf) (by conv => lhs; whnf) (by conv => lhs; whnf) | exact Q_clo)); (focus exact rfl)) | refine w_box rfl rfl (by first|(dsimp only[obA,obB,obD,obE,obF,obG,obI,List.map,AO.sh,AV.sh,AV.shl,Nat.reduceAdd];done)|exact rfl) (by first|(dsimp only[obA,obB,obD,obE,obF,obG,obI,List.map,AO.sh,AV.sh,AV.shl,Nat.reduceAdd];done)|exact rfl) rfl ?_ | refine w_box1 (by conv => lhs; whnf) rfl rfl (by first|(dsimp only[obA,obB,obD,obE,obF,obG,obI,List.map,AO.sh,AV.sh,AV.shl,Nat.reduceAdd];done)|exact rfl) (by first|(dsimp only[obA,obB,obD,obE,obF,obG,obI,List.map,AO.sh,AV.sh,AV.shl,Nat.reduceAdd];done)|exact rfl) rfl ?_ | ((refine w_freezeB 0 [.val (.int .i64 s)] rfl rfl (by simp only [fbv_nil, fbv_cons, fbl_nil, fbl_cons, fbo_nil, fbo_cons, fbo_box, fbo_row, fbo_gone, fb_own, fb_val, fb_ro, fb_rpt, fb_ptr, fb_ept, fb_agg, fb_tup, fb_clo, fb_ints, fb_rows, fb_pairs, fb_ords, Nat.reduceEqDiff, ↓reduceIte, List.set_cons_zero, List.set_cons_succ]; exact rfl) (by simp only [fbv_nil, fbv_cons, fbl_nil, fbl_cons, fbo_nil, fbo_cons, fbo_box, fbo_row, fbo_gone, fb_own, fb_val, fb_ro, fb_rpt, fb_ptr, fb_ept, fb_agg, fb_tup, fb_clo, fb_ints, fb_rows, fb_pairs, fb_ords, Nat.reduceEqDiff, ↓reduceIte, List.set_cons_zero, List.set_cons_succ]; exact rfl) ?_; (refine w_callV (.inl ⟨rfl, rfl⟩) (k) ?_ (by first | (dsimp only [AV.sh, AV.shl, sh_ints, sh_rows, sh_pairs, sh_ords]; done) | exact rfl) rfl ?_; rotate_left 0; (focus ((repeat' (first | exact trivial | exact Vs.val _ | exact Vs.ro _ | exact Vs.rpt _ _ | exact Vs.valro _ | exact Vs.nilro _ | exact Vs.any _ | refine Vs.agg' ?_ | refine Vs.tup' ?_ | refine Vs.clo' ?_ | refine ⟨?_, ?_⟩)); done)); rotate_left 1; all_goals (try (skip))))))); (try all_goals (try show retA _ _ _ _ _ _ _))
  refine ⟨[_], [], ⟨resV_tmp (by conv => lhs; whnf), trivial⟩, VwOs.mk (by decide) trivial, ?_, rfl⟩
  (repeat' (first | exact trivial | exact vwR rfl | exact vwRL rfl | exact Vw.val _ | exact Vw.ro _ | exact Vw.any _ | exact Vw.valro _ | exact Vw.own _ _ rfl | exact Vw.ptr _ _ _ rfl | exact Vw.rpt _ _ | exact Vw.nilro _ | exact Vw.rowro _ _ _ _ rfl (by decide) | exact Vw.rowro2 rfl (by decide) (by with_unfolding_all exact rfl) | refine Vw.agg' ?_ | refine Vw.tup' ?_ | refine Vw.clo' ?_ | refine Vw.boxrpt' rfl (by decide) ?_ | exact Nat.le_of_ble_eq_true rfl | refine ⟨?_, ?_⟩ ))
end Go.Proofs.Ytjepdcfiogjmgaa
