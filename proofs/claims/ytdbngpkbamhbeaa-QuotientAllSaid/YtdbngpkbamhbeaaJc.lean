import Derived.Test.YtdbngpkbamhbeaaIt
import Derived.Test.YtdbngpkbamhbeaaIp
import Derived.Test.YtdbngpkbamhbeaaIr
import Derived.Test.YtdbngpkbamhbeaaEngT
set_option linter.unusedSimpArgs false
set_option linter.unusedVariables false
set_option linter.unusedSectionVars false
set_option maxRecDepth 20000
namespace Go.Proofs.Ytdbngpkbamhbeaa
attribute [local irreducible] QOp aL aC qL
def mpd (N to : Int) (f : List Int) : Int := if (f.length : Int) ≠ N then 1 else if f.any (badI to) = true then 3 else 0
def gchk (N : Int) (m w : List (List Int)) (N' : Int) (m' w' : List (List Int)) (f : List Int) : Int :=
  if lck N m w ≠ 0 then lck N m w else if lck N' m' w' ≠ 0 then lck N' m' w' else mpd N N' f
/-- Two lattices and a map from the one to the other. -/
structure Gk (n : Nat) (M J : List (List Nat)) (k : Nat) (M' J' : List (List Nat)) (F : List Nat) : Prop where
  n1 : 1 ≤ n
  n2 : n ≤ 40
  k1 : 1 ≤ k
  k2 : k ≤ 40
  sM : Sq n M
  sJ : Sq n J
  sM' : Sq k M'
  sJ' : Sq k J'
  A : Lt n (ta M) (ta J)
  B : Lt k (ta M') (ta J')
  fl : F.length = n
  ff : ∀ x, x < n → F.getD x 0 < k
theorem mpd_none {N to : Int} {f : List Int} (h1 : (f.length : Int) = N) (h : ∀ x, x < f.length → 0 ≤ f.getD x 0 ∧ f.getD x 0 < to) : mpd N to f = 0 := by
  unfold mpd
  rw [if_neg (by omega), if_neg]
  rw [List.any_eq_true]
  rintro ⟨r, hr, hb⟩
  obtain ⟨i, hi, rfl⟩ := List.getElem_of_mem hr
  have := h i hi
  rw [List.getD_eq_getElem?_getD, List.getElem?_eq_getElem hi] at this
  unfold badI at hb
  rw [decide_eq_true_eq] at hb
  have e : (some f[i]).getD 0 = f[i] := rfl
  omega
theorem lck_of {n : Nat} {M J : List (List Nat)} (h1 : 1 ≤ n) (h2 : n ≤ 40) (hM : Sq n M) (hJ : Sq n J) (L : Lt n (ta M) (ta J)) : lck n (tn M) (tn J) = 0 := by
  rw [lck_tn h1 h2 hM hJ, if_pos]
  unfold lawB
  rw [Bool.and_eq_true, decide_eq_true_eq, decide_eq_true_eq]
  exact ⟨L.lf, L.lg⟩
theorem Gk.mp {n k : Nat} {M J M' J' : List (List Nat)} {F : List Nat} (h : Gk n M J k M' J' F) : mpd n k (nl F) = 0 := mpd_none (by rw [nl_len, h.fl]) fun x hx => by
  rw [nl_len, h.fl] at hx
  rw [nl_get]
  have := h.ff x hx
  omega
theorem Gk.zero {n k : Nat} {M J M' J' : List (List Nat)} {F : List Nat} (h : Gk n M J k M' J' F) : gchk n (tn M) (tn J) k (tn M') (tn J') (nl F) = 0 := by
  unfold gchk
  rw [lck_of h.n1 h.n2 h.sM h.sJ h.A, lck_of h.k1 h.k2 h.sM' h.sJ' h.B, h.mp]
  rfl
structure Fin1 (m : List (List Int)) : Prop where
  len : m.length ≤ 9223372036854775807
  row : ∀ r ∈ m, r.length ≤ 9223372036854775807
def l2 (N : Int) (m w : List (List Int)) (N' : Int) (m' w' : List (List Int)) (i : Nat) : Int × List (List Int) × List (List Int) := [(N, m, w), (N', m', w')].getD i (0, [], [])
end Go.Proofs.Ytdbngpkbamhbeaa
set_option linter.unusedSimpArgs false
set_option linter.unusedVariables false
set_option linter.unusedSectionVars false
set_option maxRecDepth 20000
namespace Go.Proofs.Ytdbngpkbamhbeaa
attribute [local irreducible] QOp aL aC qL
/-- The map of a list. -/
abbrev fa (F : List Nat) (x : Nat) : Nat := F.getD x 0
section
variable {P : Program} {st : St} {d : Option Tmp} {ty : TypeId} {pos : String} {af : Array Edge} {g : Option (Nat × Bool)}
structure Mp (n k : Nat) (F : List Nat) : Prop where
  len : F.length = n
  lt : ∀ x, x < n → fa F x < k
end
abbrev keepsB (n : Nat) (M J : List (List Nat)) (k : Nat) (M' J' : List (List Nat)) (F : List Nat) : Bool := decide (KeepsP n (endE (ta M) n) (endE (ta M') k) (ta J) (ta J') (fa F))
end Go.Proofs.Ytdbngpkbamhbeaa
set_option linter.unusedSimpArgs false
set_option linter.unusedVariables false
set_option linter.unusedSectionVars false
set_option maxRecDepth 20000
namespace Go.Proofs.Ytdbngpkbamhbeaa
attribute [local irreducible] QOp aL aC qL
abbrev Og (n : Nat) (M M' : List (List Nat)) (F : List Nat) (y x : Nat) : Prop := OrgP n (ta M) (ta M') (fa F) y x
/-- The way back, as far as there is one. -/
structure BkTo (n k m : Nat) (M M' : List (List Nat)) (F G : List Nat) : Prop where
  bk : Bk n m (ta M) (ta M') (fa F) G
  le : m ≤ k
  stop : m < k → ∀ x, x < n → ¬ Og n M M' F m x
abbrev bkRes (k m : Nat) : AV := if m = k then .tup [.own 0, .val (.bool true), .val (.int .i64 0)] else .tup [.val (.slice none 0 0), .val (.bool false), .val (.int .i64 0)]
end Go.Proofs.Ytdbngpkbamhbeaa
set_option linter.unusedSimpArgs false
set_option linter.unusedVariables false
set_option linter.unusedSectionVars false
set_option maxRecDepth 20000
namespace Go.Proofs.Ytdbngpkbamhbeaa
attribute [local irreducible] QOp aL aC qL
theorem extT_getD {a b : List Int} (hl : a.length = b.length) (h : ∀ i, i < a.length → a.getD i 0 = b.getD i 0) : a = b := by
  apply List.ext_getElem hl
  intro i h1 h2
  have := h i h1
  rw [List.getD_eq_getElem?_getD, List.getD_eq_getElem?_getD, List.getElem?_eq_getElem h1, List.getElem?_eq_getElem h2] at this
  exact this
theorem SameT_ac (a b : List Int) (ha : a.length ≤ 9223372036854775807) : AC Try.prog 57 [ints a, ints b] [] (.val (.bool (decide (a = b)))) [] := by
  refine AC.mk (n := 26) (fn := Try.f57) Try.func57 (by kernel_rfl) rfl rfl rfl rfl (fun cx => ?_); dsimp only [argv, Nat.reduceAdd]
  (repeat' (first | refine a_seq ?_ | refine a_block ?_ | refine a_skip ?_ | refine a_ret ?_ | refine a_exit ?_ | refine a_region ?_ | refine l_nil ?_ | (apply w_q; (focus (first | exact Q_move (by conv => lhs; whnf) | exact Q_assign (by conv => lhs; whnf) | exact Q_neq rfl rfl | exact Q_neqB rfl rfl KBo.h | exact Q_neqP rfl rfl inferInstance | exact Q_len_nats rfl KSl.h | exact Q_len_ints rfl KSl.h | exact Q_len_ownN rfl rfl KSl.h | exact Q_len_own' rfl rfl KSl.h | exact Q_len_rows rfl KSl.h | exact Q_len_pairsN rfl KSl.h | exact Q_len_pairs rfl KSl.h | exact Q_len_ords rfl KSl.h | exact Q_len_nil' rfl KSl.h | exact Q_len_ownp rfl rfl KSl.h)); (focus exact rfl)) | (refine a_cond rfl ?_ ?_ <;> (intro h; (try (have hp := of_decide_eq_true h)); (try (have hp := of_decide_eq_false h)); (try contradiction); (try (exfalso; omega)))))); (try all_goals (try show retA _ _ _ _ _ _ _))
  · refine ⟨[_], [], ⟨resV_tmp (by conv => lhs; whnf), trivial⟩, VwOs.mk (by decide) trivial, ?_, rfl⟩
    exact Vw.bool' (decide_eq_false (fun h => hp (by rw [h]))).symm
  refine w_loop (X := Nat) [0, 1] (by simp only [keepv, getv_cons, Nat.reduceEqDiff, ↓reduceIte]; exact rfl) (fun k => [(5, .val (.int .i64 (k : Int)))]) (fun k => []) (fun k => k ≤ a.length ∧ ∀ i, i < k → a.getD i 0 = b.getD i 0) (fun k => a.length - k) (0) ([]) ?_ ?_ rfl ?_ <;> (try dsimp only [List.cons_append, List.nil_append])
  · exact ⟨Nat.zero_le _, fun _ h => by omega⟩
  · (refine St.le_mk rfl (VwOs.mk (by decide) ?_) ?_ <;> (repeat' (first | exact trivial | exact vwR rfl | exact Vw.val _ | exact Vw.ro _ | exact Vw.any _ | exact Vw.own _ _ rfl | exact Vw.ptr _ _ _ rfl | exact Vw.rpt _ _ | exact Vw.valro _ | exact Vw.nilro _ | exact Vw.rowro _ _ _ _ rfl (by decide) | (refine Vw.int' ?_; first | rfl | omega | (simp; done)) | (refine Vw.bool' ?_; first | rfl | (simp; done)) | refine Vw.agg' ?_ | refine Vw.tup' ?_ | refine Vw.clo' ?_ | exact VwO.row _ _ _ | refine VwO.box' ?_ | exact VwO.gone _ | exact VwO.mp _ | exact VwO.mat _ _ _ | refine ⟨⟨_, rfl, ?_⟩, ?_⟩ | refine ⟨?_, ?_⟩ )))
  rintro k ⟨hk, hall⟩
  (repeat' (first | refine a_seq ?_ | refine a_block ?_ | refine a_skip ?_ | refine a_ret ?_ | refine a_exit ?_ | refine a_region ?_ | refine l_nil ?_ | refine q_nil ?_ | ((first | apply w_q | apply w_qq); (focus (first | exact Q_move (by conv => lhs; whnf) | exact Q_assign (by conv => lhs; whnf) | exact Q_load_ptr rfl rfl rfl KSc.h | exact Q_load_all rfl rfl KAg.h | exact Q_lss rfl rfl | exact Q_neq rfl rfl | exact Q_neqB rfl rfl KBo.h | exact Q_add rfl rfl (by omega) | exact Q_ix_nats rfl rfl rfl KSl.h (by omega) | exact Q_ix_ints rfl rfl rfl KSl.h (by omega) | exact Q_ix_ownN rfl rfl rfl rfl KSl.h (by omega) | exact Q_ix_own rfl rfl rfl rfl KSl.h (by omega) | exact Q_ix_rows rfl rfl rfl KSl.h (by omega) | exact Q_ix_pairsN rfl rfl rfl KSl.h (by omega) | exact Q_ix_pairs rfl rfl rfl KSl.h (by omega) | exact Q_ix_ords rfl rfl rfl KSl.h (by omega) | exact Q_ix_ownb rfl rfl rfl rfl KSl.h (by omega) | exact Q_ix_arr rfl rfl rfl KAr.h (by first | decide | omega) | exact Q_ix_arp rfl rfl rfl KAr.h (by first | decide | omega) | exact Q_ld_rpa rfl KAg.h rfl rfl (by first | (dsimp only [List.drop_zero, List.drop_succ_cons, List.take_succ_cons, List.take_zero, List.map, ofD]; done) | exact rfl) | exact Q_ld_rv rfl rfl KSc.h | exact Q_ld_rs rfl rfl KSc.h | exact Q_ld_nats rfl (by omega) KSc.h | exact Q_ld_ints rfl (by omega) KSc.h | exact Q_ld_ownN rfl rfl (by omega) KSc.h | exact Q_ld_own rfl rfl (by omega) KSc.h | exact Q_ld_rows rfl (by omega) KSc.h | exact Q_ld_pair1N rfl (by omega) KSc.h | exact Q_ld_pair2N rfl (by omega) KSc.h | exact Q_ld_pair1 rfl (by omega) KSc.h | exact Q_ld_pair2 rfl (by omega) KSc.h | exact Q_ld_pairN rfl (by omega) KAg.h | exact Q_ld_pair rfl (by omega) KAg.h | exact Q_neqP rfl rfl inferInstance | exact Q_ld_ord rfl (by omega) KAg.h | exact Q_ld_ownb rfl rfl (by omega) KSc.h | exact Q_len_nats rfl KSl.h | exact Q_len_ints rfl KSl.h | exact Q_len_ownN rfl rfl KSl.h | exact Q_len_own' rfl rfl KSl.h | exact Q_len_rows rfl KSl.h | exact Q_len_pairsN rfl KSl.h | exact Q_len_pairs rfl KSl.h | exact Q_len_ords rfl KSl.h | exact Q_len_nil' rfl KSl.h | exact Q_len_ownp rfl rfl KSl.h)); (focus exact rfl)) | (refine a_cond rfl ?_ ?_ <;> (intro h; (try (have hp := of_decide_eq_true h)); (try (have hp := of_decide_eq_false h)); (try contradiction); (try (exfalso; omega)))) | refine a_draw (by kernel_rfl) (by kernel_rfl) ?_)); (try all_goals (try show retA _ _ _ _ _ _ _))
  · refine ⟨[_], [], ⟨resV_tmp (by conv => lhs; whnf), trivial⟩, VwOs.mk (by decide) trivial, ?_, rfl⟩
    exact Vw.bool' (decide_eq_false (fun h => hp (by rw [h]))).symm
  · refine ⟨k + 1, [], ?_, ?_, ?_, rfl⟩ <;> (try dsimp only)
    · refine ⟨by omega, fun i hi => ?_⟩
      by_cases hq : i = k
      · subst hq
        exact Decidable.not_not.1 hp
      · exact hall i (by omega)
    · omega
    · (refine St.le_mk rfl (VwOs.mk (by decide) ?_) ?_ <;> (repeat' (first | exact trivial | exact vwR rfl | exact Vw.val _ | exact Vw.ro _ | exact Vw.any _ | exact Vw.own _ _ rfl | exact Vw.ptr _ _ _ rfl | exact Vw.rpt _ _ | exact Vw.valro _ | exact Vw.nilro _ | exact Vw.rowro _ _ _ _ rfl (by decide) | (refine Vw.int' ?_; first | rfl | omega | (simp; done)) | (refine Vw.bool' ?_; first | rfl | (simp; done)) | refine Vw.agg' ?_ | refine Vw.tup' ?_ | refine Vw.clo' ?_ | exact VwO.row _ _ _ | refine VwO.box' ?_ | exact VwO.gone _ | exact VwO.mp _ | exact VwO.mat _ _ _ | refine ⟨⟨_, rfl, ?_⟩, ?_⟩ | refine ⟨?_, ?_⟩ )))
  · refine ⟨[_], [], ⟨resV_tmp (by conv => lhs; whnf), trivial⟩, VwOs.mk (by decide) trivial, ?_, rfl⟩
    exact Vw.bool' (decide_eq_true (extT_getD (by omega) fun i hi => hall i (by omega))).symm
theorem truthT_ac (is want : Bool) (e w : Int) : AC Try.prog 38 [.val (.bool is), .val (.int .i64 e), .val (.int .i64 w), .val (.bool want)] [] (.val (.bool (decide (e = w) && (is == (want && decide (w = 0)))))) [] := by
  cases is <;> cases want
  all_goals
    refine AC.mk (n := 21) (fn := Try.f38) Try.func38 (by kernel_rfl) rfl rfl rfl rfl (fun cx => ?_); dsimp only [argv, Nat.reduceAdd]
    (repeat' (first | refine a_seq ?_ | refine a_block ?_ | refine a_skip ?_ | refine a_ret ?_ | refine a_exit ?_ | refine a_region ?_ | refine l_nil ?_ | (apply w_q; (focus (first | exact Q_move (by conv => lhs; whnf) | exact Q_assign (by conv => lhs; whnf) | exact Q_eql rfl rfl | exact Q_eqlB rfl rfl KBo.h | exact Q_eqlP rfl rfl inferInstance | exact Q_pick_t rfl (by assumption) (by conv => lhs; whnf) | exact Q_pick_f rfl (by assumption) (by conv => lhs; whnf) | exact Q_pick_t rfl rfl (by conv => lhs; whnf) | exact Q_pick_f rfl rfl (by conv => lhs; whnf))); (focus exact rfl)) | refine w_guard_u rfl rfl rfl ?_ | refine w_guard_y rfl rfl rfl (by first | assumption | rfl) ?_ | refine w_guard_n rfl rfl rfl (by first | assumption | rfl) ?_ | (refine w_guard rfl rfl rfl ?_ ?_ <;> (intro h; (try (have hp := of_decide_eq_true h)); (try (have hp := of_decide_eq_false h)); (try contradiction); (try (exfalso; omega)))))); (try all_goals (try show retA _ _ _ _ _ _ _))
    all_goals
      refine ⟨[_], [], ⟨resV_tmp (by conv => lhs; whnf), trivial⟩, VwOs.mk (by decide) trivial, ?_, rfl⟩
      exact Vw.bool' (by simp_all)
end Go.Proofs.Ytdbngpkbamhbeaa
