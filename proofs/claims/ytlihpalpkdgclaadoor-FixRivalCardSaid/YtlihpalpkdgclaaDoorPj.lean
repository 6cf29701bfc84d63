import Derived.Test.YtlihpalpkdgclaaDoorTr
import Derived.Test.YtlihpalpkdgclaaDoorTt
import Derived.Test.YtlihpalpkdgclaaDoorTl
import Derived.Test.YtlihpalpkdgclaaDoorTm
import Derived.Test.YtlihpalpkdgclaaDoorGr
import Derived.Test.YtlihpalpkdgclaaDoorGc
import Derived.Test.YtlihpalpkdgclaaDoorEngR
import Derived.Test.YtlihpalpkdgclaaDoorTabs
set_option linter.unusedSimpArgs false
set_option linter.unusedVariables false
set_option linter.unusedSectionVars false
set_option maxRecDepth 20000
namespace Go.Proofs.YtlihpalpkdgclaaDoor
open Go.ChangeShapes Go.WideShapes Go.ChangeAt Go.RowKit
attribute [local irreducible] QOp aL aC qL
theorem pc_cqN (x : Nat) : ∀ k, pcTo x k = cqN x.testBit k
  | 0 => rfl
  | k + 1 => by
    rw [pcTo, cqN, pc_cqN x k, Nat.testBit_eq_decide_div_mod_eq]
    rcases Nat.mod_two_eq_zero_or_one (x / 2 ^ k) with h | h
    · rw [h, if_neg (by decide)]; rfl
    · rw [h, if_pos (by decide)]
theorem one_bit {x : Nat} (hx : x < 1024) (h : pcTo x 10 = 1) : ∃ a, ∀ y, x.testBit y = true ↔ y = a := by
  rw [pc_cqN] at h
  obtain ⟨a, ha, h1⟩ := cqN_ex h
  refine ⟨a, fun y => ⟨fun hy => ?_, fun e => e ▸ h1⟩⟩
  rcases Nat.lt_or_ge y 10 with h2 | h2
  · exact cqN_one h h2 ha hy h1
  · rw [Nat.testBit_lt_two_pow (Nat.lt_of_lt_of_le hx (Nat.pow_le_pow_right (n := 2) (by decide) h2))] at hy; cases hy
theorem coF_lt {ns : List Nat} {n : Nat} : ∀ f s, s < 2 ^ n → coF ns f s < 2 ^ n
  | 0, _, h => h
  | f + 1, s, h => by
    rw [coF]
    split
    · exact h
    · exact coF_lt f _ (nd_lt2 h)
theorem loose_ne {n : Nat} {ns : List Nat} {s i : Nat} (hok : okB n ns = true) (hs : s < 2 ^ n) (hi : i < (mbs s).length) (h : lsQ ns s i = true) : 0 < ndiff s (2 ^ (mbs s).getD i 0) := by
  have hin : ∀ j, j < (mbs s).length → (mbs s).getD j 0 < n := fun j hj => by
    have hx := (mbs_get hj).2
    rcases Nat.lt_or_ge ((mbs s).getD j 0) n with h1 | h1
    · exact h1
    · rw [Nat.testBit_lt_two_pow (Nat.lt_of_lt_of_le hs (Nat.pow_le_pow_right (n := 2) (by decide) h1))] at hx; cases hx
  have key : ∀ k, k < (mbs s).length → (mbs s).getD k 0 ≠ (mbs s).getD i 0 → 0 < ndiff s (2 ^ (mbs s).getD i 0) := fun k hk hne => by
    rcases Nat.eq_zero_or_pos (ndiff s (2 ^ (mbs s).getD i 0)) with h1 | h1
    · have := nd_tb s ((mbs s).getD i 0) ((mbs s).getD k 0)
      rw [h1, Nat.zero_testBit, (mbs_get hk).2, decide_eq_false hne] at this
      cases this
    · exact h1
  rw [lsQ_eq hi, Bool.or_eq_true, decide_eq_true_eq, decide_eq_true_eq] at h
  rcases h with h | h
  · obtain ⟨k, hk, h1⟩ := cqN_ex h
    rw [cvQ_R hk hi] at h1
    unfold cvR at h1
    rw [Bool.and_eq_true] at h1
    refine key k hk fun e => ?_
    have h2 : lt ns ((mbs s).getD k 0) ((mbs s).getD i 0) = true := h1.1
    rw [e, okB_irr hok (hin i hi)] at h2; cases h2
  · obtain ⟨k, hk, h1⟩ := cqN_ex h
    rw [cvQ_R hi hk] at h1
    unfold cvR at h1
    rw [Bool.and_eq_true] at h1
    refine key k hk fun e => ?_
    have h2 : lt ns ((mbs s).getD i 0) ((mbs s).getD k 0) = true := h1.1
    rw [e, okB_irr hok (hin i hi)] at h2; cases h2
theorem coF_ne {n : Nat} {ns : List Nat} (hok : okB n ns = true) : ∀ f s, s < 2 ^ n → 0 < s → 0 < coF ns f s
  | 0, _, _, h => h
  | f + 1, s, hs, h => by
    rw [coF]
    cases hq : (List.range (mbs s).length).find? (lsQ ns s) with
    | none => exact h
    | some i => exact coF_ne hok f _ (nd_lt2 hs) (loose_ne hok hs (List.mem_range.1 (List.mem_of_find?_eq_some hq)) (List.find?_some hq))
/-- RIVAL. -/
theorem rival {n : Nat} {ns : List Nat} (hok : okB n ns = true) (hn : n ≤ 10) (h : pcTo (coF ns (2 ^ n) (2 ^ n - 1)) 10 = 1) {F : List Nat} (hF : MpS n n F) (hm : monB n ns ns F = true) : fxK n F ≠ 0 := by
  have hpp : 0 < 2 ^ n := Nat.pow_pos (by decide)
  have hfl : 2 ^ n - 1 < 2 ^ n := by omega
  have hcl := coF_lt (ns := ns) (2 ^ n) _ hfl
  have hpn := p2_10 hn
  obtain ⟨a, ha⟩ := one_bit (by omega) h
  have hfp := core_fpp hok hn (2 ^ n) _ hfl (one_fpp ha)
  have hS : ∀ x, (2 ^ n - 1).testBit x = true ↔ x < n := fun x => by rw [Nat.testBit_two_pow_sub_one, decide_eq_true_eq]
  obtain ⟨x, h1, h2⟩ := hfp (fun x => F.getD x 0) (fun x hx => (hS _).2 (hF.ff x ((hS x).1 hx))) (fun x y hx hy hr => monB_iff.1 hm x y ((hS x).1 hx) ((hS y).1 hy) hr)
  intro h3
  have h4 := fxK_bit (F := F) ((hS x).1 h1)
  rw [h3, Nat.zero_testBit, decide_eq_true h2] at h4
  cases h4
theorem all_dgt {n : Nat} {F : List Nat} : ∀ {m}, F.length = n → (∀ x, x < n → F.getD x 0 < m) → ∃ k, k < m ^ n ∧ dgt n m k = F := by
  induction n generalizing F with
  | zero => intro m h _; exact ⟨0, by rw [Nat.pow_zero]; omega, by rw [List.eq_nil_of_length_eq_zero h]; rfl⟩
  | succ n ih =>
    intro m h hlt
    cases F with
    | nil => cases h
    | cons x F =>
      obtain ⟨k, hk, e⟩ := ih (F := F) (m := m) (by simpa using h) fun i hi => by simpa using hlt (i + 1) (by omega)
      have hx : x < m := by simpa using hlt 0 (by omega)
      refine ⟨k * m + x, ?_, ?_⟩
      · rw [Nat.pow_succ]
        have : (k + 1) * m ≤ m ^ n * m := Nat.mul_le_mul_right m hk
        rw [Nat.succ_mul] at this
        omega
      · have h1 : (k * m + x) % m = x := by rw [Nat.add_comm, Nat.add_mul_mod_self_right, Nat.mod_eq_of_lt hx]
        have h2 : (k * m + x) / m = k := by rw [Nat.add_comm, Nat.add_mul_div_right _ _ (by omega), Nat.div_eq_of_lt hx, Nat.zero_add]
        rw [dgt_succ, h1, h2, e]
theorem mps_mem {n m : Nat} {ns ms F : List Nat} (hF : MpS n m F) (h : monB n ns ms F = true) : F ∈ mpsK n ns m ms (m ^ n) := by
  obtain ⟨k, hk, e⟩ := all_dgt hF.fl hF.ff
  unfold mpsK
  exact List.mem_filter.2 ⟨List.mem_map.2 ⟨k, List.mem_range.2 hk, e⟩, h⟩
theorem mps_mp {n m : Nat} {ns ms F : List Nat} (h : F ∈ mpsK n ns m ms (m ^ n)) : MpS n m F ∧ monB n ns ms F = true := by
  unfold mpsK at h
  obtain ⟨h1, h2⟩ := List.mem_filter.1 h
  obtain ⟨k, hk, rfl⟩ := List.mem_map.1 h1
  exact ⟨dgt_mp (List.mem_range.1 hk), h2⟩
set_option maxHeartbeats 4000000 in
theorem rival_walk (n : Nat) (ns : List Nat) (f : List Int) (hn : n ≤ 10) (hv : Vld n ns) (hok : okB n ns = true) (s e : Int) (ok : Bool) (g : Int)
    (kF : AC Tryd.prog 37 [ordv n (nl ns), ints f] [] (.tup [.val (.int .i64 s), .val (.int .i64 e)]) []) (kA : AC Tryd.prog 46 [ordv n (nl ns)] [] (.tup [.val (.bool ok), .val (.int .i64 g)]) [])
    (h1 : e = 0 → pcTo (coF ns (2 ^ n) (2 ^ n - 1)) 10 = 1 → s ≠ 0) (h2 : g ≠ 0 ∨ (ok = true ∧ e ≠ 0) ∨ (ok = true ∧ e = 0 ∧ 0 < s) ∨ (ok = false ∧ pcTo (coF ns (2 ^ n) (2 ^ n - 1)) 10 ≠ 1)) :
    AC Tryd.prog 14 [ordv n (nl ns), ints f] [] (.val (.bool true)) [] := by
  have kv := fxbegun_ac
  have hpp : 0 < 2 ^ n := Nat.pow_pos (by decide)
  have hfl : 2 ^ n - 1 < 2 ^ n := by omega
  have hpn := p2_10 hn
  have kC := Core_ok n ns hn hv hok
  have hcl := coF_lt (ns := ns) (2 ^ n) _ hfl
  have hne : 0 < n → 0 < coF ns (2 ^ n) (2 ^ n - 1) := fun h => coF_ne hok _ _ hfl (by
    have : 2 ^ 1 ≤ 2 ^ n := Nat.pow_le_pow_right (by decide) h
    omega)
  have kS := Size_ac (coF ns (2 ^ n) (2 ^ n - 1)) 10 (by omega) (by decide)
  generalize coF ns (2 ^ n) (2 ^ n - 1) = C at *
  generalize pcTo C 10 = z at *
  rcases h2 with h2 | ⟨rfl, h2⟩ | ⟨rfl, h2, h3⟩ | ⟨rfl, h2⟩
  all_goals
    refine AC.mk (n := 70) (fn := Tryd.f14) Tryd.func14 (by kernel_rfl) rfl rfl rfl rfl (fun cx => ?_); dsimp only [argv, Nat.reduceAdd]
    (repeat' (first | refine a_seq ?_ | refine a_block ?_ | refine a_skip ?_ | refine a_ret ?_ | refine a_exit ?_ | refine a_region ?_ | refine l_nil ?_ | (apply w_q; (focus (first | exact Q_move (by conv => lhs; whnf) | exact Q_assign (by conv => lhs; whnf) | exact Q_fieldAddr_ptr rfl KFl.h | exact Q_fieldAddr_rpt rfl KFl.h | exact Q_load_ptr rfl rfl rfl KSc.h | exact Q_load_all rfl rfl KAg.h | exact Q_gtr rfl rfl | exact Q_eql rfl rfl | exact Q_eqlB rfl rfl KBo.h | exact Q_neq rfl rfl | exact Q_neqB rfl rfl KBo.h | exact Q_ld_rpa rfl KAg.h rfl rfl (by first | (dsimp only [List.drop_zero, List.drop_succ_cons, List.take_succ_cons, List.take_zero, List.map, ofD]; done) | exact rfl) | exact Q_ld_rv rfl rfl KSc.h | exact Q_ld_rs rfl rfl KSc.h | exact Q_ld_nats rfl (by omega) KSc.h | exact Q_ld_ints rfl (by omega) KSc.h | exact Q_ld_ownN rfl rfl (by omega) KSc.h | exact Q_ld_own rfl rfl (by omega) KSc.h | exact Q_ld_rows rfl (by omega) KSc.h | exact Q_ld_pair1N rfl (by omega) KSc.h | exact Q_ld_pair2N rfl (by omega) KSc.h | exact Q_ld_pair1 rfl (by omega) KSc.h | exact Q_ld_pair2 rfl (by omega) KSc.h | exact Q_ld_pairN rfl (by omega) KAg.h | exact Q_ld_pair rfl (by omega) KAg.h | exact Q_eqlP rfl rfl inferInstance | exact Q_neqP rfl rfl inferInstance | exact Q_ld_ord rfl (by omega) KAg.h | exact Q_ld_ownb rfl rfl (by omega) KSc.h | exact Q_extract rfl (by conv => lhs; whnf) | exact Q_extract_v rfl (by conv => lhs; whnf) | exact Q_not rfl | exact Q_pick_t rfl (by assumption) (by conv => lhs; whnf) | exact Q_pick_f rfl (by assumption) (by conv => lhs; whnf) | exact Q_pick_t rfl rfl (by conv => lhs; whnf) | exact Q_pick_f rfl rfl (by conv => lhs; whnf))); (focus exact rfl)) | (refine a_cond rfl ?_ ?_ <;> (intro h; (try (have hp := of_decide_eq_true h)); (try (have hp := of_decide_eq_false h)); (try contradiction); (try (exfalso; omega)))) | refine w_guard_u rfl rfl rfl ?_ | refine w_guard_y rfl rfl rfl (by first | assumption | rfl) ?_ | refine w_guard_n rfl rfl rfl (by first | assumption | rfl) ?_ | (refine w_guard rfl rfl rfl ?_ ?_ <;> (intro h; (try (have hp := of_decide_eq_true h)); (try (have hp := of_decide_eq_false h)); (try contradiction); (try (exfalso; omega)))) | refine w_box rfl rfl (by first|(dsimp only[obA,obB,obD,obE,obF,obG,obI,List.map,AO.sh,AV.sh,AV.shl,Nat.reduceAdd];done)|exact rfl) (by first|(dsimp only[obA,obB,obD,obE,obF,obG,obI,List.map,AO.sh,AV.sh,AV.shl,Nat.reduceAdd];done)|exact rfl) rfl ?_ | refine w_box1 (by conv => lhs; whnf) rfl rfl (by first|(dsimp only[obA,obB,obD,obE,obF,obG,obI,List.map,AO.sh,AV.sh,AV.shl,Nat.reduceAdd];done)|exact rfl) (by first|(dsimp only[obA,obB,obD,obE,obF,obG,obI,List.map,AO.sh,AV.sh,AV.shl,Nat.reduceAdd];done)|exact rfl) rfl ?_ | (((first | apply w_q | apply w_qq); (focus (refine Q_callT2 (.inl ⟨rfl, rfl⟩) (kC) ?_; ((repeat' (first | exact trivial | exact vwR rfl | exact vwRL rfl | exact Vw.val _ | exact Vw.ro _ | exact Vw.any _ | exact Vw.valro _ | exact Vw.own _ _ rfl | exact Vw.ptr _ _ _ rfl | exact Vw.rpt _ _ | exact Vw.nilro _ | exact Vw.rowro _ _ _ _ rfl (by decide) | exact Vw.rowro2 rfl (by decide) (by with_unfolding_all exact rfl) | refine Vw.agg' ?_ | refine Vw.tup' ?_ | refine Vw.clo' ?_ | refine Vw.boxrpt' rfl (by decide) ?_ | exact Nat.le_of_ble_eq_true rfl | refine ⟨?_, ?_⟩ )); done))); (focus exact rfl))) | (((first | apply w_q | apply w_qq); (focus (refine Q_callT2 (.inl ⟨rfl, rfl⟩) (kF) ?_; ((repeat' (first | exact trivial | exact vwR rfl | exact vwRL rfl | exact Vw.val _ | exact Vw.ro _ | exact Vw.any _ | exact Vw.valro _ | exact Vw.own _ _ rfl | exact Vw.ptr _ _ _ rfl | exact Vw.rpt _ _ | exact Vw.nilro _ | exact Vw.rowro _ _ _ _ rfl (by decide) | exact Vw.rowro2 rfl (by decide) (by with_unfolding_all exact rfl) | refine Vw.agg' ?_ | refine Vw.tup' ?_ | refine Vw.clo' ?_ | refine Vw.boxrpt' rfl (by decide) ?_ | exact Nat.le_of_ble_eq_true rfl | refine ⟨?_, ?_⟩ )); done))); (focus exact rfl))) | (((first | apply w_q | apply w_qq); (focus (refine Q_callT2 (.inl ⟨rfl, rfl⟩) (kA) ?_; ((repeat' (first | exact trivial | exact vwR rfl | exact vwRL rfl | exact Vw.val _ | exact Vw.ro _ | exact Vw.any _ | exact Vw.valro _ | exact Vw.own _ _ rfl | exact Vw.ptr _ _ _ rfl | exact Vw.rpt _ _ | exact Vw.nilro _ | exact Vw.rowro _ _ _ _ rfl (by decide) | exact Vw.rowro2 rfl (by decide) (by with_unfolding_all exact rfl) | refine Vw.agg' ?_ | refine Vw.tup' ?_ | refine Vw.clo' ?_ | refine Vw.boxrpt' rfl (by decide) ?_ | exact Nat.le_of_ble_eq_true rfl | refine ⟨?_, ?_⟩ )); done))); (focus exact rfl))) | (((first | apply w_q | apply w_qq); (focus (refine Q_call (.inl ⟨rfl, rfl⟩) (kS) ?_; ((repeat' (first | exact trivial | exact vwR rfl | exact vwRL rfl | exact Vw.val _ | exact Vw.ro _ | exact Vw.any _ | exact Vw.valro _ | exact Vw.own _ _ rfl | exact Vw.ptr _ _ _ rfl | exact Vw.rpt _ _ | exact Vw.nilro _ | exact Vw.rowro _ _ _ _ rfl (by decide) | exact Vw.rowro2 rfl (by decide) (by with_unfolding_all exact rfl) | refine Vw.agg' ?_ | refine Vw.tup' ?_ | refine Vw.clo' ?_ | refine Vw.boxrpt' rfl (by decide) ?_ | exact Nat.le_of_ble_eq_true rfl | refine ⟨?_, ?_⟩ )); done))); (focus exact rfl))) | (((first | apply w_q | apply w_qq); (focus (refine Q_call (.inl ⟨rfl, rfl⟩) (kv) ?_; ((repeat' (first | exact trivial | exact vwR rfl | exact vwRL rfl | exact Vw.val _ | exact Vw.ro _ | exact Vw.any _ | exact Vw.valro _ | exact Vw.own _ _ rfl | exact Vw.ptr _ _ _ rfl | exact Vw.rpt _ _ | exact Vw.nilro _ | exact Vw.rowro _ _ _ _ rfl (by decide) | exact Vw.rowro2 rfl (by decide) (by with_unfolding_all exact rfl) | refine Vw.agg' ?_ | refine Vw.tup' ?_ | refine Vw.clo' ?_ | refine Vw.boxrpt' rfl (by decide) ?_ | exact Nat.le_of_ble_eq_true rfl | refine ⟨?_, ?_⟩ )); done))); (focus exact rfl))))); (try all_goals (try show retA _ _ _ _ _ _ _))
    all_goals first
      | (exfalso; omega)
      | (refine ⟨[_], [], ⟨resV_tmp (by conv => lhs; whnf), trivial⟩, VwOs.mk (by decide) trivial, ?_, rfl⟩; (repeat' (first | exact trivial | exact vwR rfl | exact vwRL rfl | exact Vw.val _ | exact Vw.ro _ | exact Vw.any _ | exact Vw.valro _ | exact Vw.own _ _ rfl | exact Vw.ptr _ _ _ rfl | exact Vw.rpt _ _ | exact Vw.nilro _ | exact Vw.rowro _ _ _ _ rfl (by decide) | exact Vw.rowro2 rfl (by decide) (by with_unfolding_all exact rfl) | refine Vw.agg' ?_ | refine Vw.tup' ?_ | refine Vw.clo' ?_ | refine Vw.boxrpt' rfl (by decide) ?_ | exact Nat.le_of_ble_eq_true rfl | refine ⟨?_, ?_⟩ )); done)
      | (refine ⟨[_], [], ⟨resV_tmp (by conv => lhs; whnf), trivial⟩, VwOs.mk (by decide) trivial, ?_, rfl⟩; refine Vw.bool' ?_; simp only [decide_eq_true_eq, true_eq_decide_iff, Bool.true_eq, eq_comm (a := true)]; omega)
      | (all_goals trace_state); fail
theorem FixRival_ac (N : Int) (l f : List Int) (hf : f.length ≤ 9223372036854775807) : AC Tryd.prog 14 [ordv N l, ints f] [] (.val (.bool true)) [] := by
  have kv := fxbegun_ac
  by_cases hz : chk N l = 0
  · obtain ⟨n, ns, rfl, rfl, a1, a2, a3⟩ := chk_zero hz
    have hF : ∃ s e, AC Tryd.prog 37 [ordv n (nl ns), ints f] [] (.tup [.val (.int .i64 s), .val (.int .i64 e)]) [] ∧ (e ≠ 0 ∨ ∃ F, MpS n n F ∧ monB n ns ns F = true ∧ e = 0 ∧ s = ((fxK n F : Nat) : Int)) := by
      by_cases hm : mnE n (nl ns) n (nl ns) f = 0
      · obtain ⟨n', ns', m, ms, F, e1, e2, e3, e4, rfl, _, _, _, _, _, _, hF⟩ := mnE_zero hm
        obtain rfl : n' = n := by omega
        obtain rfl : m = n' := by omega
        by_cases hb : monB m ns ns F = true
        · exact ⟨_, _, Fixed_ok m ns F a1 a2 a3 hF (fxK m F : Nat) 0 (fun _ => ⟨rfl, rfl⟩) (fun h => by rw [hb] at h; cases h), .inr ⟨F, hF, hb, rfl, rfl⟩⟩
        · rw [Bool.not_eq_true] at hb
          exact ⟨_, _, Fixed_ok m ns F a1 a2 a3 hF 0 4 (fun h => by rw [hb] at h; cases h) (fun _ => ⟨rfl, rfl⟩), .inl (by decide)⟩
      · exact ⟨_, _, Fixed_err n (nl ns) f hf hm, .inl hm⟩
    obtain ⟨s, e, kF, hF⟩ := hF
    by_cases h5 : n ≤ 5
    · have kA := Always_ok n ns h5 a2 a3
      generalize hb : ((mpsK n ns n ns (n ^ n)).all fun F => decide (fxK n F ≠ 0)) = b at *
      refine rival_walk n ns f a1 a2 a3 s e b 0 kF kA (fun he hp => ?_) (.inr ?_)
      · rcases hF with hF | ⟨F, h1, h2, _, rfl⟩
        · exact absurd he hF
        · have := rival a3 a1 hp h1 h2
          omega
      · cases b
        · right; right
          refine ⟨rfl, fun hp => ?_⟩
          rw [List.all_eq_false] at hb
          obtain ⟨F, h1, h2⟩ := hb
          obtain ⟨h3, h4⟩ := mps_mp h1
          exact h2 (decide_eq_true (rival a3 a1 hp h3 h4))
        · rcases hF with hF | ⟨F, h1, h2, rfl, rfl⟩
          · exact .inl ⟨rfl, hF⟩
          · right; left
            have := List.all_eq_true.1 hb F (mps_mem h1 h2)
            rw [decide_eq_true_eq] at this
            exact ⟨rfl, rfl, by omega⟩
    · have hg : alE n (nl ns) = 2 := by unfold alE; rw [hz, if_neg (by decide), if_pos (by omega)]
      have kA := Always_err n (nl ns) (by rw [hg]; decide)
      rw [hg] at kA
      refine rival_walk n ns f a1 a2 a3 s e false 2 kF kA (fun he hp => ?_) (.inl (by decide))
      rcases hF with hF | ⟨F, h1, h2, _, rfl⟩
      · exact absurd he hF
      · have := rival a3 a1 hp h1 h2
        omega
  · have k1 := Core_err N l hz
    generalize chk N l = e at *
    refine AC.mk (n := 70) (fn := Tryd.f14) Tryd.func14 (by kernel_rfl) rfl rfl rfl rfl (fun cx => ?_); dsimp only [argv, Nat.reduceAdd]
    
    (repeat' (first | refine a_seq ?_ | refine a_block ?_ | refine a_skip ?_ | refine a_ret ?_ | refine a_exit ?_ | refine a_region ?_ | refine l_nil ?_ | (apply w_q; (focus (first | exact Q_move (by conv => lhs; whnf) | exact Q_assign (by conv => lhs; whnf) | exact Q_load_ptr rfl rfl rfl KSc.h | exact Q_load_all rfl rfl KAg.h | exact Q_neq rfl rfl | exact Q_neqB rfl rfl KBo.h | exact Q_ld_rpa rfl KAg.h rfl rfl (by first | (dsimp only [List.drop_zero, List.drop_succ_cons, List.take_succ_cons, List.take_zero, List.map, ofD]; done) | exact rfl) | exact Q_ld_rv rfl rfl KSc.h | exact Q_ld_rs rfl rfl KSc.h | exact Q_ld_nats rfl (by omega) KSc.h | exact Q_ld_ints rfl (by omega) KSc.h | exact Q_ld_ownN rfl rfl (by omega) KSc.h | exact Q_ld_own rfl rfl (by omega) KSc.h | exact Q_ld_rows rfl (by omega) KSc.h | exact Q_ld_pair1N rfl (by omega) KSc.h | exact Q_ld_pair2N rfl (by omega) KSc.h | exact Q_ld_pair1 rfl (by omega) KSc.h | exact Q_ld_pair2 rfl (by omega) KSc.h | exact Q_ld_pairN rfl (by omega) KAg.h | exact Q_ld_pair rfl (by omega) KAg.h | exact Q_neqP rfl rfl inferInstance | exact Q_ld_ord rfl (by omega) KAg.h | exact Q_ld_ownb rfl rfl (by omega) KSc.h | exact Q_extract rfl (by conv => lhs; whnf) | exact Q_extract_v rfl (by conv => lhs; whnf) | exact Q_not rfl)); (focus exact rfl)) | (refine a_cond rfl ?_ ?_ <;> (intro h; (try (have hp := of_decide_eq_true h)); (try (have hp := of_decide_eq_false h)); (try contradiction); (try (exfalso; omega)))) | refine w_box rfl rfl (by first|(dsimp only[obA,obB,obD,obE,obF,obG,obI,List.map,AO.sh,AV.sh,AV.shl,Nat.reduceAdd];done)|exact rfl) (by first|(dsimp only[obA,obB,obD,obE,obF,obG,obI,List.map,AO.sh,AV.sh,AV.shl,Nat.reduceAdd];done)|exact rfl) rfl ?_ | refine w_box1 (by conv => lhs; whnf) rfl rfl (by first|(dsimp only[obA,obB,obD,obE,obF,obG,obI,List.map,AO.sh,AV.sh,AV.shl,Nat.reduceAdd];done)|exact rfl) (by first|(dsimp only[obA,obB,obD,obE,obF,obG,obI,List.map,AO.sh,AV.sh,AV.shl,Nat.reduceAdd];done)|exact rfl) rfl ?_ | (((first | apply w_q | apply w_qq); (focus (refine Q_callT2 (.inl ⟨rfl, rfl⟩) (k1) ?_; ((repeat' (first | exact trivial | exact vwR rfl | exact vwRL rfl | exact Vw.val _ | exact Vw.ro _ | exact Vw.any _ | exact Vw.valro _ | exact Vw.own _ _ rfl | exact Vw.ptr _ _ _ rfl | exact Vw.rpt _ _ | exact Vw.nilro _ | exact Vw.rowro _ _ _ _ rfl (by decide) | exact Vw.rowro2 rfl (by decide) (by with_unfolding_all exact rfl) | refine Vw.agg' ?_ | refine Vw.tup' ?_ | refine Vw.clo' ?_ | refine Vw.boxrpt' rfl (by decide) ?_ | exact Nat.le_of_ble_eq_true rfl | refine ⟨?_, ?_⟩ )); done))); (focus exact rfl))) | (((first | apply w_q | apply w_qq); (focus (refine Q_call (.inl ⟨rfl, rfl⟩) (kv) ?_; ((repeat' (first | exact trivial | exact vwR rfl | exact vwRL rfl | exact Vw.val _ | exact Vw.ro _ | exact Vw.any _ | exact Vw.valro _ | exact Vw.own _ _ rfl | exact Vw.ptr _ _ _ rfl | exact Vw.rpt _ _ | exact Vw.nilro _ | exact Vw.rowro _ _ _ _ rfl (by decide) | exact Vw.rowro2 rfl (by decide) (by with_unfolding_all exact rfl) | refine Vw.agg' ?_ | refine Vw.tup' ?_ | refine Vw.clo' ?_ | refine Vw.boxrpt' rfl (by decide) ?_ | exact Nat.le_of_ble_eq_true rfl | refine ⟨?_, ?_⟩ )); done))); (focus exact rfl))))); (try all_goals (try show retA _ _ _ _ _ _ _))
    all_goals first
      | (exfalso; omega)
      | (refine ⟨[_], [], ⟨resV_tmp (by conv => lhs; whnf), trivial⟩, VwOs.mk (by decide) trivial, ?_, rfl⟩; (repeat' (first | exact trivial | exact vwR rfl | exact vwRL rfl | exact Vw.val _ | exact Vw.ro _ | exact Vw.any _ | exact Vw.valro _ | exact Vw.own _ _ rfl | exact Vw.ptr _ _ _ rfl | exact Vw.rpt _ _ | exact Vw.nilro _ | exact Vw.rowro _ _ _ _ rfl (by decide) | exact Vw.rowro2 rfl (by decide) (by with_unfolding_all exact rfl) | refine Vw.agg' ?_ | refine Vw.tup' ?_ | refine Vw.clo' ?_ | refine Vw.boxrpt' rfl (by decide) ?_ | exact Nat.le_of_ble_eq_true rfl | refine ⟨?_, ?_⟩ )); done)
      | (all_goals trace_state); fail
theorem knob_own : ownKnob Tryd.prog.godebug = none := by kernel_rfl
theorem laid_out : laidOutB Tryd.prog = true := by kernel_rfl
theorem door_met (os : Os) (args : Array Value) : laidMetH Tryd.prog tabL ((World.doorLaid Tryd.prog 19 os).forCall (fun _ _ => 0) ⟨#[], args, []⟩).memory :=
  laidMetH_of_parts3 (fuel := 8) (laidMet_of_run' 8 (by kernel_rfl) (by kernel_rfl)) (by kernel_rfl) (by kernel_rfl)
set_option maxRecDepth 100000 in
theorem FixRival_lifted (os : Os) (started : os.Started) (H : Type) (enc : TypeId × Value → H) :
    ReturnsInHanded {} Tryd.checked os 14 .any (fun w args => (Rows.fixRivalSpec.pre enc Tryd.prog Tryd.f14 Rows.fixRivalRow.domain false w args ∧ laidMetH Tryd.prog tabL w) ∧ sizedMet enc Tryd.prog Tryd.f14 (OpenSpec.ofChange Rows.fixRivalSpec) false w args) (Rows.fixRivalSpec.post enc Tryd.prog Tryd.f14 false true false false) := by
  refine law_frameT (C := Tryd.checked) (laid := tabL) knob_own started (by kernel_rfl) Tryd.func14
    (ChangeSpec.witness_shaped (enc := enc) (C := Tryd.checked) (os := os) (X := fun w _ => laidMetH Tryd.prog tabL w) false (World.doorLaid Tryd.prog 19 os) #[.agg #[.int .i64 0, .slice none 0 0], .slice none 0 0] 8 rfl (World.shaped_of_RefB (by kernel_rfl) (by kernel_rfl)) (by kernel_rfl) (by kernel_rfl) (by kernel_rfl) (door_met os _))
    laid_out rfl Tryd.underlying4 (by kernel_rfl) rfl ?_ tab_laid ?_
  · intro ds h
    match ds, h with
    | [d0, d1], _ => rfl
  · intro W base args ds p hval hA
    obtain ⟨v0, v1, d0, d1, p0, p1, rfl, rfl, rfl, h0, h1⟩ := trodAll_two hA
    obtain ⟨N0, l0, u0, rfl, r0, a0, b0, c0⟩ := arg_order Tryd.underlying41 (by kernel_rfl) rfl rfl Tryd.underlying3 (by kernel_rfl) Tryd.underlying22 (by kernel_rfl) Tryd.underlying3 (by kernel_rfl) (hval 0 _ _ rfl rfl) h0
    obtain ⟨l1, r1, b1, c1⟩ := arg_ints Tryd.underlying22 Tryd.underlying3 (by kernel_rfl) (hval 1 _ _ rfl rfl) h1
    exact ⟨[_, _], ⟨gm_order r0, gm_ints r1, trivial⟩, FixRival_ac N0 l0 l1 (by have := c1; unfold big at this; omega)⟩
theorem FixRival_row : Rows.FixRivalSaid :=
  OpenClaim.holds_of_wide 14 Tryd.f14 rfl rfl rfl rfl rfl rfl rfl ⟨rfl, rfl, rfl, rfl, rfl⟩ rfl rfl rfl rfl rfl (by kernel_rfl) Tryd.func14 (by kernel_rfl)
    (of_decide_eq_true (by kernel_rfl)) (by unfold Func.isWrapper; first | (rw [if_pos (by decide +kernel)]; kernel_rfl) | (rw [if_neg (by decide +kernel)]; exact ⟨rfl, rfl⟩))
    (fun os started H enc _ => FixRival_lifted os started H enc)
theorem FixRival_holds : Rows.FixRivalCardSaid :=
  Claim7.holds_tied_plain_at .later [] [.data, .data] true (true, "f8b78812bbf19fad248fb574a50f00ecbf36f9b709696bbd1ae1725b8085664e") false
    FixRival_row (fun _ h => by cases h) (by kernel_rfl) (fun _ h => by cases h) fixRival_row_tie rfl ⟨rfl, rfl⟩ (by kernel_rfl) rfl
    (fun f fn hf hfn => by
      obtain rfl : f = 14 := Option.some.inj ((show Tryd.prog.funcNamed "hasse/hasselaw.FixRival" = some 14 by kernel_rfl).symm.trans hf) |>.symm
      obtain rfl : fn = Tryd.f14 := (Option.some.inj (Tryd.func14.symm.trans hfn)).symm
      exact ⟨by kernel_rfl, fun j t ht => by
        rw [Tryd.params14] at ht
        have hm : t ∈ [41, 22] := by simpa using Array.mem_of_getElem? ht
        have hall : ([41, 22].all fun u => !Tryd.prog.wantsStandIn u) = true := by kernel_rfl
        exact (show Tryd.prog.wantsStandIn t = false by simpa using List.all_eq_true.1 hall t hm)⟩)
    (by kernel_rfl)
end Go.Proofs.YtlihpalpkdgclaaDoor
