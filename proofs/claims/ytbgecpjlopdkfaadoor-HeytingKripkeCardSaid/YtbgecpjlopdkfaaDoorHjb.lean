import Derived.Test.YtbgecpjlopdkfaaDoorKa
import Derived.Test.YtbgecpjlopdkfaaDoorHgd
import Derived.Test.YtbgecpjlopdkfaaDoorQm
import Derived.Test.YtbgecpjlopdkfaaDoorHeb
import Derived.Test.YtbgecpjlopdkfaaDoorIu
set_option linter.unusedSimpArgs false
set_option linter.unusedVariables false
set_option linter.unusedSectionVars false
set_option maxRecDepth 20000
namespace Go.Proofs.YtbgecpjlopdkfaaDoor
attribute [local irreducible] QOp aL aC qL
section
variable {n : Nat} {ns D : List Nat} (hD : Vld n D) (hlt : ∀ a b, a < n → b < n → lt D a b = lt ns b a)
theorem id_leK {x y : Nat} (hx : x < (idTo n D (2 ^ n)).length) (hy : y < (idTo n D (2 ^ n)).length) : ta (idM n D) x y = x ↔ sub ((idTo n D (2 ^ n)).getD x 0) ((idTo n D (2 ^ n)).getD y 0) = true := by
  unfold idM
  rw [tbT_ta _ hx hy]
  exact (id_StJ n D).below hx hy
theorem id_mtK {x y : Nat} (hx : x < (idTo n D (2 ^ n)).length) (hy : y < (idTo n D (2 ^ n)).length) : ta (idM n D) x y < (idTo n D (2 ^ n)).length ∧ (idTo n D (2 ^ n)).getD (ta (idM n D) x y) 0 = (idTo n D (2 ^ n)).getD x 0 &&& (idTo n D (2 ^ n)).getD y 0 := by
  unfold idM
  rw [tbT_ta _ hx hy]
  exact (id_StJ n D).mt hx hy
theorem id_jnK {x y : Nat} (hx : x < (idTo n D (2 ^ n)).length) (hy : y < (idTo n D (2 ^ n)).length) : ta (idJ n D) x y < (idTo n D (2 ^ n)).length ∧ (idTo n D (2 ^ n)).getD (ta (idJ n D) x y) 0 = (idTo n D (2 ^ n)).getD x 0 ||| (idTo n D (2 ^ n)).getD y 0 := by
  unfold idJ
  rw [tbT_ta _ hx hy]
  exact (id_StJ n D).jn hx hy
theorem id_distK : DisP (idTo n D (2 ^ n)).length (ta (idM n D)) (ta (idJ n D)) := fun x y z hx hy hz => by
  obtain ⟨a1, a2⟩ := id_jnK (n := n) (D := D) hy hz
  obtain ⟨b1, b2⟩ := id_mtK (n := n) (D := D) hx hy
  obtain ⟨c1, c2⟩ := id_mtK (n := n) (D := D) hx hz
  obtain ⟨d1, d2⟩ := id_mtK (n := n) (D := D) hx a1
  obtain ⟨e1, e2⟩ := id_jnK (n := n) (D := D) b1 c1
  refine (id_StJ n D).one _ _ d1 e1 ?_
  rw [d2, e2, a2, b2, c2]
  exact Nat.and_or_distrib_left _ _ _
include hD hlt
theorem idl_up {s : Nat} : idl n D s = true ↔ ∀ p q, p < n → q < n → lt ns p q = true → s.testBit p = true → s.testBit q = true := by
  rw [idl_iff]
  constructor
  · intro h p q hp hq hl hs
    refine sub_iff.1 (h p hp hs) q ?_
    have := hlt q p hq hp
    rw [hl] at this
    exact this
  · intro h b hb hs
    refine sub_iff.2 fun a ha => ?_
    have hl : lt D a b = true := ha
    have han := lt_lt hD.2 hl
    rw [hlt a b han hb] at hl
    exact h b a hb han hl hs
variable (hn : n ≤ 10) (hv : Vld n ns) (hok : okB n ns = true) (hm : (idTo n D (2 ^ n)).length ≤ 40)
include hn hv hok hm
theorem imp_set {x y X Y : Nat} (hx : x < (idTo n D (2 ^ n)).length) (hy : y < (idTo n D (2 ^ n)).length) (eX : (idTo n D (2 ^ n)).getD x 0 = X) (eY : (idTo n D (2 ^ n)).getD y 0 = Y) :
    (idTo n D (2 ^ n)).getD (impV (idTo n D (2 ^ n)).length (idM n D) (idJ n D) x y) 0 = ndiff (2 ^ n - 1) (pvB ns (ndiff X Y) (mbs (ndiff X Y)).length) := by
  have hL := id_la (n := n) (ns := D) hm
  have hdi := id_distK (n := n) (D := D)
  have hi := impV_lt hL hdi (x := x) (y := y)
  have hX : X < 2 ^ n := by rw [← eX]; exact (id_get hx).1
  have hib := fun p hp => imp_bit hn hv (bad := ndiff X Y) (p := p) (ndiff_lt hX) hp
  have hres := fun w hw => imp_iff hL hdi (w := w) hw hx hy
  generalize impV (idTo n D (2 ^ n)).length (idM n D) (idJ n D) x y = z at *
  obtain ⟨z1, z2⟩ := id_get (n := n) (ns := D) hi
  have hU : ndiff (2 ^ n - 1) (pvB ns (ndiff X Y) (mbs (ndiff X Y)).length) < 2 ^ n := ndiff_lt (by have := Nat.two_pow_pos n; omega)
  generalize ndiff (2 ^ n - 1) (pvB ns (ndiff X Y) (mbs (ndiff X Y)).length) = U at *
  have hbn : ∀ {s p : Nat}, s < 2 ^ n → s.testBit p = true → p < n := fun {s p} hs h => by
    rcases Nat.lt_or_ge p n with h1 | h1
    · exact h1
    · rw [Nat.testBit_lt_two_pow (Nat.lt_of_lt_of_le hs (Nat.pow_le_pow_right (n := 2) (by decide) h1))] at h; cases h
  have hUi : idl n D U = true := (idl_up hD hlt).2 fun p q hp hq hl h => (hib q hq).2 fun r hr hqr => (hib p hp).1 h r hr (by
    rw [Bool.or_eq_true, decide_eq_true_eq] at hqr ⊢
    rcases hqr with rfl | hqr
    · exact .inr hl
    · exact .inr (okB_tr hok hr hq hqr hl))
  obtain ⟨u, hu, eu⟩ := id_at (n := n) (ns := D) hU hUi
  have two : ∀ w, w < (idTo n D (2 ^ n)).length → (ta (idM n D) w z = w ↔ ∀ q, ((idTo n D (2 ^ n)).getD w 0).testBit q = true → X.testBit q = true → Y.testBit q = true) := fun w hw => by
    obtain ⟨m1, m2⟩ := id_mtK (n := n) (D := D) hw hx
    rw [← hres w hw, id_leK m1 hy, m2, eX, eY, sub_iff]
    constructor
    · intro h q h1 h2
      exact h q (by rw [Nat.testBit_and, h1, h2]; rfl)
    · intro h q h1
      rw [Nat.testBit_and, Bool.and_eq_true] at h1
      exact h q h1.1 h1.2
  apply Nat.eq_of_testBit_eq
  intro p
  rw [Bool.eq_iff_iff]
  constructor
  · intro h
    have hp := hbn z1 h
    refine (hib p hp).2 fun q hq hpq => ?_
    have hzq : ((idTo n D (2 ^ n)).getD z 0).testBit q = true := by
      rw [Bool.or_eq_true, decide_eq_true_eq] at hpq
      rcases hpq with rfl | hpq
      · exact h
      · exact (idl_up hD hlt).1 z2 p q hp hq hpq h
    have hzz := (two z hi).1 ((id_leK hi hi).2 (sub_rfl _)) q hzq
    rw [testBit_ndiff]
    cases hxq : X.testBit q
    · rfl
    · rw [hzz hxq]; rfl
  · intro h
    have := (two u hu).2 fun q h1 h2 => by
      rw [eu] at h1
      have hq := hbn hU h1
      have := (hib q hq).1 h1 q hq (by simp)
      rw [testBit_ndiff, h2, Bool.true_and, Bool.not_eq_false'] at this
      exact this
    have := (id_leK hu hi).1 this
    rw [eu] at this
    exact sub_iff.1 this p h
theorem fv_fr {vs ws : List Nat} (hvs : vs.length = 3 ∧ ∀ i, i < 3 → vs.getD i 0 < 2 ^ n) (hws : ∀ i, i < 3 → ws.getD i 0 < (idTo n D (2 ^ n)).length ∧ (idTo n D (2 ^ n)).getD (ws.getD i 0) 0 = vs.getD i 0) : ∀ (d : Nat) (t : Tr), t.dep ≤ d → t.ffm = 0 →
    fvF (idTo n D (2 ^ n)).length (idM n D) (idJ n D) ws d t < (idTo n D (2 ^ n)).length ∧ (idTo n D (2 ^ n)).getD (fvF (idTo n D (2 ^ n)).length (idM n D) (idJ n D) ws d t) 0 = frF n ns vs d t
  | 0, .mk k v l, hd, _ => by unfold Tr.dep at hd; omega
  | d + 1, .mk k v l, hd, hf => by
    obtain ⟨⟨w, rfl, hw, _⟩, hc⟩ := ffm_zero hf
    unfold Tr.dep at hd
    have hL := id_la (n := n) (ns := D) hm
    have hdi := id_distK (n := n) (D := D)
    rcases hc with ⟨hk, rfl⟩ | ⟨hk, k1, v1, l1, k2, v2, l2, rfl, f1, f2⟩
    · rcases hk with rfl | rfl
      · show endE (ta (idM n D)) (idTo n D (2 ^ n)).length < _ ∧ _ = (0 : Nat)
        have hlo := lo_lt hL hdi
        refine ⟨hlo, ?_⟩
        show (idTo n D (2 ^ n)).getD (endE (ta (idM n D)) (idTo n D (2 ^ n)).length) 0 = 0
        obtain ⟨o, h1, h2⟩ := id_at (n := n) (ns := D) (s := 0) (Nat.two_pow_pos n) (idl_iff.2 fun b _ h => by rw [Nat.zero_testBit] at h; cases h)
        have := (id_leK hlo h1).1 (lo_le hL hdi h1)
        rw [h2] at this
        apply Nat.eq_of_testBit_eq
        intro p
        rw [Nat.zero_testBit, Bool.eq_false_iff]
        intro hp
        have := sub_iff.1 this p hp
        rw [Nat.zero_testBit] at this; cases this
      · show (if (2 : Int) = 2 then ws.getD (w : Int).toNat 0 else _) < _ ∧ (idTo n D (2 ^ n)).getD (if (2 : Int) = 2 then ws.getD (w : Int).toNat 0 else _) 0 = (if (2 : Int) = 2 then vs.getD (w : Int).toNat 0 else _)
        rw [if_pos rfl, if_pos rfl, Int.toNat_natCast]
        exact hws w hw
    · rw [kdep_two] at hd
      obtain ⟨a1, a2⟩ := fv_fr hvs hws d (.mk k1 v1 l1) (by omega) f1
      obtain ⟨b1, b2⟩ := fv_fr hvs hws d (.mk k2 v2 l2) (by omega) f2
      rcases hk with rfl | rfl | rfl
      · obtain ⟨c1, c2⟩ := id_mtK (n := n) (D := D) a1 b1
        rw [a2, b2] at c2
        exact ⟨c1, c2⟩
      · obtain ⟨c1, c2⟩ := id_jnK (n := n) (D := D) a1 b1
        rw [a2, b2] at c2
        exact ⟨c1, c2⟩
      · exact ⟨impV_lt hL hdi, imp_set hD hlt hn hv hok hm a1 b1 a2 b2⟩
end
end Go.Proofs.YtbgecpjlopdkfaaDoor
set_option linter.unusedSimpArgs false
set_option linter.unusedVariables false
set_option linter.unusedSectionVars false
set_option maxRecDepth 20000
namespace Go.Proofs.YtbgecpjlopdkfaaDoor
attribute [local irreducible] QOp aL aC qL
theorem PlaceKr_ac (l : List Int) (x : Int) (hl : l.length ≤ 9223372036854775807) : AC Tryd.prog 50 [ints l, .val (.int .i64 x)] [] (.val (.int .i64 (idx (fun y => decide (y = x)) l))) [] := by
  refine AC.mk (n := 19) (fn := Tryd.f50) Tryd.func50 (by kernel_rfl) rfl rfl rfl rfl (fun cx => ?_); dsimp only [argv, Nat.reduceAdd]
  (repeat' (first | refine a_seq ?_ | refine a_block ?_ | refine a_region ?_ | refine l_nil ?_ | (apply w_q; (focus (first | exact Q_assign (by conv => lhs; whnf))); (focus exact rfl)))); (try all_goals (try show retA _ _ _ _ _ _ _))
  (refine w_loop (X := Nat) [0, 1] (by simp only [keepv, getv_cons, Nat.reduceEqDiff, ↓reduceIte]; exact rfl) (fun k => [(5, .val (.int .i64 (k : Int)))]) (fun _ => []) (fun k => k ≤ l.length ∧ ∀ j, j < k → (fun i => ¬ l.getD i 0 = x) j) (fun k => l.length - k) (0) ([]) ?_ ?_ rfl ?_ <;> (try dsimp only [List.cons_append, List.nil_append]); (focus exact ⟨Nat.zero_le _, fun j hj => absurd hj (Nat.not_lt_zero _)⟩); (focus (refine St.le_mk rfl (VwOs.mk (by decide) ?_) ?_ <;> (repeat' (first | exact trivial | exact vwR rfl | exact Vw.ro _ | refine ⟨?_, ?_⟩ )))); rintro k ⟨hk, hall⟩; try dsimp only at *)
  have hs1 : k < l.length → l.getD k 0 = x → idx (fun y => decide (y = x)) l = k := fun h1 h2 => idx_some h1 (fun i h3 h4 => decide_eq_false (by rw [← getD_of h3 0]; exact hall i h4)) (decide_eq_true (by rw [← getD_of h1 0]; exact h2))
  have hs2 : k = l.length → idx (fun y => decide (y = x)) l = -1 := fun h1 => idx_none fun i h2 => decide_eq_false (by rw [← getD_of h2 0]; exact hall i (by omega))
  (repeat' (first | refine a_seq ?_ | refine a_block ?_ | refine a_skip ?_ | refine a_ret ?_ | refine a_exit ?_ | refine a_region ?_ | refine l_nil ?_ | (apply w_q; (focus (first | exact Q_move (by conv => lhs; whnf) | exact Q_assign (by conv => lhs; whnf) | exact Q_lss rfl rfl | exact Q_eql rfl rfl | exact Q_add rfl rfl (by omega) | exact Q_ix_ints rfl rfl rfl KSl.h (by omega) | exact Q_ld_ints rfl (by omega) KSc.h | exact Q_len_ints rfl KSl.h)); (focus exact rfl)) | (refine a_cond rfl ?_ ?_ <;> (intro h; (try (have hp := of_decide_eq_true h)); (try (have hp := of_decide_eq_false h)); (try contradiction); (try (exfalso; omega)))))); (try all_goals (try show retA _ _ _ _ _ _ _))
  all_goals first
    | (exfalso; omega)
    | ((refine ⟨k + 1, [], ?_, ?_, ?_, rfl⟩ <;> (try dsimp only); (focus (refine ⟨by omega, fun j hj => ?_⟩; by_cases hq : j = k; (focus (subst hq; assumption)); (focus exact hall j (by omega)))); (focus omega); (focus (refine St.le_mk rfl (VwOs.mk (by decide) ?_) ?_ <;> (repeat' (first | exact trivial | exact vwR rfl | exact Vw.ro _ | refine ⟨?_, ?_⟩ ))))); done)
    | (rw [hs1 (by omega) (by assumption)]; refine ⟨[_], [], ⟨resV_tmp (by conv => lhs; whnf), trivial⟩, VwOs.mk (by decide) trivial, ?_, rfl⟩; (repeat' (first | exact vwR rfl)); done)
    | (rw [hs2 (by omega)]; refine ⟨[_], [], ⟨resV_tmp (by conv => lhs; whnf), trivial⟩, VwOs.mk (by decide) trivial, ?_, rfl⟩; (repeat' (first | exact vwR rfl)); done)
    | (all_goals trace_state); fail
theorem DualKr_ok (n : Nat) (ns : List Nat) (hn : n ≤ 10) (hv : Vld n ns) (hok : okB n ns = true) : AC Tryd.prog 47 [ordv n (nl ns)] [] (.tup [ordv n (nl (ofn n (dualP ns))), .val (.int .i64 0)]) [] := AC.vw0 (Dual_ok n ns hv hn (chk_ok hn hv hok)) (by (repeat' (first | exact trivial | exact vwR rfl | exact vwRL rfl | exact Vw.rowro _ _ _ _ rfl (by decide) | refine Vw.agg' ?_ | refine Vw.tup' ?_ | refine ⟨?_, ?_⟩ )))
theorem okB_dualKr {n : Nat} {ns : List Nat} (hok : okB n ns = true) : okB n (ofn n (dualP ns)) = true := by
  have dl : ∀ {a b : Nat}, a < n → b < n → lt (ofn n (dualP ns)) a b = lt ns b a := fun ha hb => ofn_lt (dualP ns) ha hb
  refine okB_all (ofn_vld n _).2 fun i hi => ⟨fun j hj k hk => ?_, ?_⟩
  · cases ht : trip (ofn n (dualP ns)) i j k
    · rfl
    · simp only [trip, Bool.and_eq_true, Bool.not_eq_true'] at ht
      obtain ⟨h1, h2, h3⟩ := ht
      rw [dl (by assumption) (by assumption)] at h1 h2 h3
      have : trip ns j i k = true := by simp only [trip, h1, h2, h3]; rfl
      have := okB_trip hj hk this
      rw [hok] at this; cases this
  · rw [dl hi hi]; exact okB_irr hok hi
def kW (S : List Nat) (x : Int) : Int := idx (fun y => decide (y = x)) (nl S)
theorem kW_cases (S : List Nat) (x : Int) : kW S x = -1 ∨ ∃ k : Nat, kW S x = k ∧ k < S.length ∧ x = (S.getD k 0 : Nat) := by
  unfold kW idx
  cases h : (nl S).findIdx? fun y => decide (y = x) with
  | none => exact .inl rfl
  | some i =>
    obtain ⟨h1, h2, _⟩ := List.findIdx?_eq_some_iff_getElem.1 h
    have h3 := h1
    rw [nl_len] at h3
    refine .inr ⟨i, rfl, h3, ?_⟩
    have h2 := of_decide_eq_true h2
    rw [← nl_get S i, getD_of h1 0]
    exact h2.symm
theorem kr_vs {S : List Nat} {vars : List Int} (h : mpd 3 S.length (vars.map (kW S)) = 0) : ∃ vs ws : List Nat, vars = nl vs ∧ vars.map (kW S) = nl ws ∧ vs.length = 3 ∧ ws.length = 3 ∧ ∀ i, i < 3 → ws.getD i 0 < S.length ∧ S.getD (ws.getD i 0) 0 = vs.getD i 0 := by
  unfold mpd at h
  by_cases hl : ((vars.map (kW S)).length : Int) = 3
  · rw [if_neg (fun e => e hl)] at h
    rw [List.length_map] at hl
    have hb : (vars.map (kW S)).any (badI S.length) = false := by
      cases e : (vars.map (kW S)).any (badI S.length)
      · rfl
      · rw [if_pos e] at h; omega
    have hx : ∀ x ∈ vars, ∃ k : Nat, kW S x = k ∧ k < S.length ∧ x = (S.getD k 0 : Nat) := fun x hx => by
      have := List.any_eq_false.1 hb (kW S x) (List.mem_map.2 ⟨x, hx, rfl⟩)
      unfold badI at this
      rw [decide_eq_true_eq] at this
      rcases kW_cases S x with h | h
      · omega
      · exact h
    refine ⟨vars.map Int.toNat, vars.map fun x => (kW S x).toNat, ?_, ?_, by rw [List.length_map]; omega, by rw [List.length_map]; omega, fun i hi => ?_⟩
    · unfold nl
      rw [List.map_map]
      conv => lhs; rw [← List.map_id vars]
      refine List.map_congr_left fun x hxm => ?_
      obtain ⟨k, _, _, h3⟩ := hx x hxm
      show x = ((x.toNat : Nat) : Int)
      omega
    · unfold nl
      rw [List.map_map]
      refine List.map_congr_left fun x hxm => ?_
      obtain ⟨k, h1, _, _⟩ := hx x hxm
      show kW S x = (((kW S x).toNat : Nat) : Int)
      omega
    · have hi : i < vars.length := by omega
      obtain ⟨k, h1, h2, h3⟩ := hx vars[i] (List.getElem_mem hi)
      have e1 : (vars.map fun x => (kW S x).toNat).getD i 0 = k := by
        rw [List.getD_eq_getElem?_getD, List.getElem?_map, List.getElem?_eq_getElem hi]
        show (kW S vars[i]).toNat = k
        omega
      have e2 : (vars.map Int.toNat).getD i 0 = S.getD k 0 := by
        rw [List.getD_eq_getElem?_getD, List.getElem?_map, List.getElem?_eq_getElem hi]
        show vars[i].toNat = _
        omega
      rw [e1, e2]
      exact ⟨h2, rfl⟩
  · rw [if_pos hl] at h; omega
section
variable {n : Nat} {ns D : List Nat} (hD : Vld n D) (hlt : ∀ a b, a < n → b < n → lt D a b = lt ns b a) (hv : Vld n ns)
include hD hlt hv
theorem kr_up {s : Nat} (hs : s < 2 ^ n) (h : idl n D s = true) : upB n ns s = true := by
  refine List.all_eq_true.2 fun p hp => ?_
  have hp := List.mem_range.1 hp
  cases hb : s.testBit p
  · rw [Bool.or_false, decide_eq_true_eq]
    apply Nat.eq_of_testBit_eq
    intro a
    rw [Nat.testBit_and, Nat.zero_testBit]
    cases ha : (ns.getD p 0).testBit a
    · rfl
    · cases hsa : s.testBit a
      · rfl
      · have hl : lt ns a p = true := ha
        have := (idl_up hD hlt).1 h a p (lt_lt hv.2 hl) hp hl hsa
        rw [hb] at this; cases this
  · rw [Bool.or_true]
theorem kr_fce {vs ws : List Nat} (h3 : vs.length = 3) (hws : ∀ i, i < 3 → ws.getD i 0 < (idTo n D (2 ^ n)).length ∧ (idTo n D (2 ^ n)).getD (ws.getD i 0) 0 = vs.getD i 0) {p : Nat} (hp : p < n) :
    fcE n ns (nl vs) p = 0 ∧ vs.length = 3 ∧ ∀ i, i < 3 → vs.getD i 0 < 2 ^ n := by
  have hg : ∀ x ∈ nl vs, ∃ m : Nat, x = m ∧ m < 2 ^ n ∧ idl n D m = true := fun x hx => by
    obtain ⟨i, hi, rfl⟩ := List.getElem_of_mem hx
    have hi3 : i < 3 := by rw [nl_len, h3] at hi; exact hi
    obtain ⟨w1, w2⟩ := hws i hi3
    obtain ⟨g1, g2⟩ := id_get w1
    rw [w2] at g1 g2
    exact ⟨vs.getD i 0, by rw [← nl_get, getD_of hi 0], g1, g2⟩
  refine ⟨?_, h3, fun i hi => by rw [← (hws i hi).2]; exact (id_get (hws i hi).1).1⟩
  have e1 : (nl vs).any (bdS n) = false := by
    rw [List.any_eq_false]
    intro x hx
    obtain ⟨m, rfl, h1, _⟩ := hg x hx
    unfold bdS
    rw [decide_eq_true_eq]
    omega
  have e2 : ((nl vs).any fun x => !upB n ns x.toNat) = false := by
    rw [List.any_eq_false]
    intro x hx
    obtain ⟨m, rfl, h1, h2⟩ := hg x hx
    rw [Int.toNat_natCast, kr_up hD hlt hv h1 h2]
    decide
  unfold fcE
  rw [if_neg (by rw [nl_len]; omega), e1, e2, if_neg (by rintro (h | h | h); omega; omega; cases h), if_neg (by decide)]
end
end Go.Proofs.YtbgecpjlopdkfaaDoor
