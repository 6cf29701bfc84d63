import Derived.Test.YtbgecpjlopdkfaaDoorIt
import Derived.Test.YtbgecpjlopdkfaaDoorIp
set_option linter.unusedSimpArgs false
set_option linter.unusedVariables false
set_option linter.unusedSectionVars false
set_option maxRecDepth 20000
namespace Go.Proofs.YtbgecpjlopdkfaaDoor
attribute [local irreducible] QOp aL aC qL
def mpd (N to : Int) (f : List Int) : Int := if (f.length : Int) ≠ N then 1 else if f.any (badI to) = true then 3 else 0
def gchk (N : Int) (m w : List (List Int)) (N' : Int) (m' w' : List (List Int)) (f : List Int) : Int :=
  if lck N m w ≠ 0 then lck N m w else if lck N' m' w' ≠ 0 then lck N' m' w' else mpd N N' f
/-- Two lattices and a map from the one to the other. -/
structure Gk (n : Nat) (M J : List (List Nat)) (k : Nat) (M' J' : List (List Nat)) (F : List Nat) : Prop where
  n1 : 1 ≤ n
  n2 : n ≤ 40
  k1 : 1 ≤ k
  k2 : k ≤ 40
  sM : Sq n M
  sJ : Sq n J
  sM' : Sq k M'
  sJ' : Sq k J'
  A : Lt n (ta M) (ta J)
  B : Lt k (ta M') (ta J')
  fl : F.length = n
  ff : ∀ x, x < n → F.getD x 0 < k
theorem mpd_hit {N to : Int} {f : List Int} (h1 : (f.length : Int) = N) {x : Nat} (hx : x < f.length) (h : f.getD x 0 < 0 ∨ to ≤ f.getD x 0) : mpd N to f = 3 := by
  unfold mpd
  rw [if_neg (by omega), if_pos]
  rw [List.any_eq_true]
  refine ⟨f.getD x 0, by rw [List.getD_eq_getElem?_getD, List.getElem?_eq_getElem hx]; exact List.getElem_mem hx, ?_⟩
  unfold badI
  rw [decide_eq_true_eq]; exact h
theorem mpd_none {N to : Int} {f : List Int} (h1 : (f.length : Int) = N) (h : ∀ x, x < f.length → 0 ≤ f.getD x 0 ∧ f.getD x 0 < to) : mpd N to f = 0 := by
  unfold mpd
  rw [if_neg (by omega), if_neg]
  rw [List.any_eq_true]
  rintro ⟨r, hr, hb⟩
  obtain ⟨i, hi, rfl⟩ := List.getElem_of_mem hr
  have := h i hi
  rw [List.getD_eq_getElem?_getD, List.getElem?_eq_getElem hi] at this
  unfold badI at hb
  rw [decide_eq_true_eq] at hb
  have e : (some f[i]).getD 0 = f[i] := rfl
  omega
theorem lck_of {n : Nat} {M J : List (List Nat)} (h1 : 1 ≤ n) (h2 : n ≤ 40) (hM : Sq n M) (hJ : Sq n J) (L : Lt n (ta M) (ta J)) : lck n (tn M) (tn J) = 0 := by
  rw [lck_tn h1 h2 hM hJ, if_pos]
  unfold lawB
  rw [Bool.and_eq_true, decide_eq_true_eq, decide_eq_true_eq]
  exact ⟨L.lf, L.lg⟩
theorem Gk.mp {n k : Nat} {M J M' J' : List (List Nat)} {F : List Nat} (h : Gk n M J k M' J' F) : mpd n k (nl F) = 0 := mpd_none (by rw [nl_len, h.fl]) fun x hx => by
  rw [nl_len, h.fl] at hx
  rw [nl_get]
  have := h.ff x hx
  omega
theorem Gk.zero {n k : Nat} {M J M' J' : List (List Nat)} {F : List Nat} (h : Gk n M J k M' J' F) : gchk n (tn M) (tn J) k (tn M') (tn J') (nl F) = 0 := by
  unfold gchk
  rw [lck_of h.n1 h.n2 h.sM h.sJ h.A, lck_of h.k1 h.k2 h.sM' h.sJ' h.B, h.mp]
  rfl
theorem Mapped_ac (N to : Int) (f : List Int) (hf : f.length ≤ 9223372036854775807) : AC Tryd.prog 41 [.val (.int .i64 N), .val (.int .i64 to), ints f] [] (.val (.int .i64 (mpd N to f))) [] := by
  by_cases hN : (f.length : Int) = N
  · subst hN
    refine AC.mk (n := 30) (fn := Tryd.f41) Tryd.func41 (by kernel_rfl) rfl rfl rfl rfl (fun cx => ?_); dsimp only [argv, Nat.reduceAdd]
    (repeat' (first | refine a_seq ?_ | refine a_block ?_ | refine a_skip ?_ | refine a_region ?_ | refine l_nil ?_ | (apply w_q; (focus (first | exact Q_move (by conv => lhs; whnf) | exact Q_assign (by conv => lhs; whnf) | exact Q_neq rfl rfl | exact Q_len_ints rfl KSl.h)); (focus exact rfl)) | (refine a_cond rfl ?_ ?_ <;> (intro h; (try (have hp := of_decide_eq_true h)); (try (have hp := of_decide_eq_false h)); (try contradiction); (try (exfalso; omega)))))); (try all_goals (try show retA _ _ _ _ _ _ _))
    (refine w_loop (X := Nat) [0, 1, 2] (by simp only [keepv, getv_cons, Nat.reduceEqDiff, ↓reduceIte]; exact rfl) (fun k => [(7, .val (.int .i64 (k : Int)))]) (fun _ => []) (fun k => k ≤ f.length ∧ ∀ j, j < k → (fun x => 0 ≤ f.getD x 0 ∧ f.getD x 0 < to) j) (fun k => f.length - k) (0) ([]) ?_ ?_ rfl ?_ <;> (try dsimp only [List.cons_append, List.nil_append]); (focus exact ⟨Nat.zero_le _, fun j hj => absurd hj (Nat.not_lt_zero _)⟩); (focus (refine St.le_mk rfl (VwOs.mk (by decide) ?_) ?_ <;> (repeat' (first | exact trivial | exact vwR rfl | exact Vw.ro _ | refine ⟨?_, ?_⟩ )))); rintro x ⟨hx, hx1⟩; try dsimp only at *)
    by_cases hxn : x < f.length
    · (repeat' (first | refine a_seq ?_ | refine a_block ?_ | refine a_skip ?_ | refine a_ret ?_ | refine a_region ?_ | refine l_nil ?_ | (apply w_q; (focus (first | exact Q_move (by conv => lhs; whnf) | exact Q_assign (by conv => lhs; whnf) | exact Q_lss rfl rfl | exact Q_geq rfl rfl | exact Q_add rfl rfl (by omega) | exact Q_ix_ints rfl rfl rfl KSl.h (by omega) | exact Q_ld_ints rfl (by omega) KSc.h | exact Q_pick_t rfl (by assumption) (by conv => lhs; whnf) | exact Q_pick_f rfl (by assumption) (by conv => lhs; whnf))); (focus exact rfl)) | (refine a_cond rfl ?_ ?_ <;> (intro h; (try (have hp := of_decide_eq_true h)); (try (have hp := of_decide_eq_false h)); (try contradiction); (try (exfalso; omega)))) | refine w_guard_y rfl rfl rfl (by first | assumption | rfl) ?_ | refine w_guard_n rfl rfl rfl (by first | assumption | rfl) ?_ | (refine w_guard rfl rfl rfl ?_ ?_ <;> (intro h; (try (have hp := of_decide_eq_true h)); (try (have hp := of_decide_eq_false h)); (try contradiction); (try (exfalso; omega)))))); (try all_goals (try show retA _ _ _ _ _ _ _))
      all_goals first
        | (refine ⟨[_], [], ⟨resV_tmp (by conv => lhs; whnf), trivial⟩, VwOs.mk (by decide) trivial, ?_, rfl⟩; rw [mpd_hit rfl hxn (by omega)]; exact Vw.val _)
        | ((refine ⟨x + 1, [], ?_, ?_, ?_, rfl⟩ <;> (try dsimp only); (focus (refine ⟨by omega, fun j hj => ?_⟩; by_cases hq : j = x; (focus (subst hq; (omega))); (focus exact hx1 j (by omega)))); (focus omega); (focus (refine St.le_mk rfl (VwOs.mk (by decide) ?_) ?_ <;> (repeat' (first | exact trivial | exact vwR rfl | exact Vw.ro _ | refine ⟨?_, ?_⟩ ))))); done)
    · (repeat' (first | refine a_seq ?_ | refine a_ret ?_ | refine a_exit ?_ | refine a_region ?_ | refine l_nil ?_ | (apply w_q; (focus (first | exact Q_move (by conv => lhs; whnf) | exact Q_assign (by conv => lhs; whnf) | exact Q_lss rfl rfl)); (focus exact rfl)) | (refine a_cond rfl ?_ ?_ <;> (intro h; (try (have hp := of_decide_eq_true h)); (try (have hp := of_decide_eq_false h)); (try contradiction); (try (exfalso; omega)))))); (try all_goals (try show retA _ _ _ _ _ _ _))
      refine ⟨[_], [], ⟨resV_tmp (by conv => lhs; whnf), trivial⟩, VwOs.mk (by decide) trivial, ?_, rfl⟩
      rw [mpd_none rfl fun y hy => hx1 y (by omega)]
      exact Vw.val _
  · have e : mpd N to f = 1 := by unfold mpd; rw [if_pos hN]
    refine AC.mk (n := 30) (fn := Tryd.f41) Tryd.func41 (by kernel_rfl) rfl rfl rfl rfl (fun cx => ?_); dsimp only [argv, Nat.reduceAdd]
    (repeat' (first | refine a_seq ?_ | refine a_ret ?_ | refine a_region ?_ | refine l_nil ?_ | (apply w_q; (focus (first | exact Q_move (by conv => lhs; whnf) | exact Q_assign (by conv => lhs; whnf) | exact Q_neq rfl rfl | exact Q_len_ints rfl KSl.h)); (focus exact rfl)) | (refine a_cond rfl ?_ ?_ <;> (intro h; (try (have hp := of_decide_eq_true h)); (try (have hp := of_decide_eq_false h)); (try contradiction); (try (exfalso; omega)))))); (try all_goals (try show retA _ _ _ _ _ _ _))
    refine ⟨[_], [], ⟨resV_tmp (by conv => lhs; whnf), trivial⟩, VwOs.mk (by decide) trivial, ?_, rfl⟩
    rw [e]
    exact Vw.val _
structure Fin1 (m : List (List Int)) : Prop where
  len : m.length ≤ 9223372036854775807
  row : ∀ r ∈ m, r.length ≤ 9223372036854775807
def l2 (N : Int) (m w : List (List Int)) (N' : Int) (m' w' : List (List Int)) (i : Nat) : Int × List (List Int) × List (List Int) := [(N, m, w), (N', m', w')].getD i (0, [], [])
end Go.Proofs.YtbgecpjlopdkfaaDoor
