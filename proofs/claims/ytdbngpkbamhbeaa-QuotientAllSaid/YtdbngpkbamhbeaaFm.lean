import Derived.Test.YtdbngpkbamhbeaaIp
import Derived.Test.YtdbngpkbamhbeaaEngT
set_option linter.unusedSimpArgs false
set_option linter.unusedVariables false
set_option linter.unusedSectionVars false
set_option maxRecDepth 20000
namespace Go.Proofs.Ytdbngpkbamhbeaa
attribute [local irreducible] QOp aL aC qL
/-- How many of the first k. -/
def nc (p : Nat → Bool) : Nat → Nat
  | 0 => 0
  | k + 1 => if p k = true then nc p k + 1 else nc p k
/-- What is below x, and not x, taken together, as far as k. -/
def jnT (f g : Nat → Nat → Nat) (low x : Nat) : Nat → Nat
  | 0 => low
  | k + 1 => if k ≠ x ∧ f k x = k then g (jnT f g low x k) k else jnT f g low x k
/-- Does x cover y. -/
def CovP (n : Nat) (f : Nat → Nat → Nat) (x y : Nat) : Prop := (y ≠ x ∧ f y x = y) ∧ ∀ z, z < n → z = x ∨ z = y ∨ f y z ≠ y ∨ f z x ≠ z
instance (n : Nat) (f : Nat → Nat → Nat) (x y : Nat) : Decidable (CovP n f x y) := by unfold CovP; infer_instance
/-- From y up, as long as it is below x. -/
def upT (f : Nat → Nat → Nat) (x y : Nat) : Nat → Nat
  | 0 => y
  | k + 1 => if f (upT f x y k) k = upT f x y k ∧ k ≠ x ∧ f k x = k then k else upT f x y k
section
variable {n : Nat} {f g : Nat → Nat → Nat} (L : Lt n f g)
include L
end
end Go.Proofs.Ytdbngpkbamhbeaa
set_option linter.unusedSimpArgs false
set_option linter.unusedVariables false
set_option linter.unusedSectionVars false
set_option maxRecDepth 20000
namespace Go.Proofs.Ytdbngpkbamhbeaa
attribute [local irreducible] QOp aL aC qL
def idx {α : Type} (p : α → Bool) (l : List α) : Int := match l.findIdx? p with
  | some i => i
  | none => -1
theorem idx_some {α : Type} {p : α → Bool} {l : List α} {k : Nat} (hk : k < l.length) (h0 : ∀ i (h : i < l.length), i < k → p l[i] = false) (h1 : p l[k] = true) : idx p l = k := by
  unfold idx
  rw [(List.findIdx?_eq_some_iff_getElem (p := p) (i := k) (xs := l)).2 ⟨hk, h1, fun j hj => by rw [h0 j (by omega) hj]; decide⟩]
theorem idx_none {α : Type} {p : α → Bool} {l : List α} (h0 : ∀ i (h : i < l.length), p l[i] = false) : idx p l = -1 := by
  unfold idx
  rw [List.findIdx?_eq_none_iff.2 (fun x hx => by
    obtain ⟨i, hi, rfl⟩ := List.getElem_of_mem hx
    exact h0 i hi)]
theorem idx_any {α : Type} (p : α → Bool) (l : List α) : decide (idx p l ≥ 0) = l.any p := by
  unfold idx
  cases h : l.findIdx? p with
  | none =>
    have := List.findIdx?_eq_none_iff.1 h
    rw [List.any_eq_false.2 (fun x hx => by rw [this x hx]; decide)]
    rfl
  | some i =>
    obtain ⟨h1, h2, _⟩ := List.findIdx?_eq_some_iff_getElem.1 h
    rw [List.any_eq_true.2 ⟨_, List.getElem_mem h1, h2⟩]
    exact decide_eq_true (by show ((i : Nat) : Int) ≥ 0; omega)
theorem getD_of {α : Type} {l : List α} {k : Nat} (h : k < l.length) (z : α) : l.getD k z = l[k] := by rw [List.getD_eq_getElem?_getD, List.getElem?_eq_getElem h]; rfl

theorem IndexR_ac {cl : AV} {g : FuncId} {caps : List AV} [VwR cl] [VwRL caps] (hcl : IsFn cl g caps) (p : List Int → Bool) (l : List (List Int)) (hl : l.length ≤ 9223372036854775807)
    (hg : ∀ x ∈ l, AC Try.prog g (ints x :: caps) [] (.val (.bool (p x))) []) : AC Try.prog 129 [rows l, cl] [] (.val (.int .i64 (idx p l))) [] := by
  refine AC.mk (n := 19) (fn := Try.f129) Try.func129 (by kernel_rfl) rfl rfl rfl rfl (fun cx => ?_); dsimp only [argv, Nat.reduceAdd]
  (repeat' (first | refine a_seq ?_ | refine a_block ?_ | refine a_skip ?_ | refine a_ret ?_ | refine a_exit ?_ | refine a_region ?_ | refine l_nil ?_ | (apply w_q; (focus (first | exact Q_move (by conv => lhs; whnf) | exact Q_assign (by conv => lhs; whnf) | exact Q_len_nats rfl KSl.h | exact Q_len_ints rfl KSl.h | exact Q_len_ownN rfl rfl KSl.h | exact Q_len_own' rfl rfl KSl.h | exact Q_len_rows rfl KSl.h | exact Q_len_pairsN rfl KSl.h | exact Q_len_pairs rfl KSl.h | exact Q_len_ords rfl KSl.h | exact Q_len_nil' rfl KSl.h | exact Q_len_ownp rfl rfl KSl.h)); (focus exact rfl)) | (refine a_cond rfl ?_ ?_ <;> (intro h; (try (have hp := of_decide_eq_true h)); (try (have hp := of_decide_eq_false h)); (try contradiction); (try (exfalso; omega)))))); (try all_goals (try show retA _ _ _ _ _ _ _))
  refine w_loop (X := Nat) [0, 1, 7] (by simp only [keepv, getv_cons, Nat.reduceEqDiff, ↓reduceIte]; exact rfl) (fun k => [(8, .val (.int .i64 (k : Int)))]) (fun k => []) (fun k => k ≤ l.length ∧ ∀ i (h : i < l.length), i < k → p l[i] = false) (fun k => l.length - k) (0) ([]) ?_ ?_ rfl ?_ <;> (try dsimp only [List.cons_append, List.nil_append])
  · exact ⟨Nat.zero_le _, fun _ _ h => by omega⟩
  · (refine St.le_mk rfl (VwOs.mk (by decide) ?_) ?_ <;> (repeat' (first | exact trivial | exact vwR rfl | exact Vw.val _ | exact Vw.ro _ | exact Vw.any _ | exact Vw.own _ _ rfl | exact Vw.ptr _ _ _ rfl | exact Vw.rpt _ _ | exact Vw.valro _ | exact Vw.nilro _ | exact Vw.rowro _ _ _ _ rfl (by decide) | (refine Vw.int' ?_; first | rfl | omega | (simp; done)) | (refine Vw.bool' ?_; first | rfl | (simp; done)) | refine Vw.agg' ?_ | refine Vw.tup' ?_ | refine Vw.clo' ?_ | exact VwO.row _ _ _ | refine VwO.box' ?_ | exact VwO.gone _ | exact VwO.mp _ | exact VwO.mat _ _ _ | refine ⟨⟨_, rfl, ?_⟩, ?_⟩ | refine ⟨?_, ?_⟩ )))
  rintro k ⟨hk, h0⟩
  (repeat' (first | refine a_seq ?_ | refine a_block ?_ | refine a_skip ?_ | refine a_ret ?_ | refine a_exit ?_ | refine a_region ?_ | refine l_nil ?_ | (apply w_q; (focus (first | exact Q_move (by conv => lhs; whnf) | exact Q_assign (by conv => lhs; whnf) | exact Q_load_ptr rfl rfl rfl KSc.h | exact Q_load_all rfl rfl KAg.h | exact Q_lss rfl rfl | exact Q_add rfl rfl (by omega) | exact Q_ix_nats rfl rfl rfl KSl.h (by omega) | exact Q_ix_ints rfl rfl rfl KSl.h (by omega) | exact Q_ix_ownN rfl rfl rfl rfl KSl.h (by omega) | exact Q_ix_own rfl rfl rfl rfl KSl.h (by omega) | exact Q_ix_rows rfl rfl rfl KSl.h (by omega) | exact Q_ix_pairsN rfl rfl rfl KSl.h (by omega) | exact Q_ix_pairs rfl rfl rfl KSl.h (by omega) | exact Q_ix_ords rfl rfl rfl KSl.h (by omega) | exact Q_ix_ownb rfl rfl rfl rfl KSl.h (by omega) | exact Q_ix_arr rfl rfl rfl KAr.h (by first | decide | omega) | exact Q_ix_arp rfl rfl rfl KAr.h (by first | decide | omega) | exact Q_ld_rpa rfl KAg.h rfl rfl (by first | (dsimp only [List.drop_zero, List.drop_succ_cons, List.take_succ_cons, List.take_zero, List.map, ofD]; done) | exact rfl) | exact Q_ld_rv rfl rfl KSc.h | exact Q_ld_rs rfl rfl KSc.h | exact Q_ld_nats rfl (by omega) KSc.h | exact Q_ld_ints rfl (by omega) KSc.h | exact Q_ld_ownN rfl rfl (by omega) KSc.h | exact Q_ld_own rfl rfl (by omega) KSc.h | exact Q_ld_rows rfl (by omega) KSc.h | exact Q_ld_pair1N rfl (by omega) KSc.h | exact Q_ld_pair2N rfl (by omega) KSc.h | exact Q_ld_pair1 rfl (by omega) KSc.h | exact Q_ld_pair2 rfl (by omega) KSc.h | exact Q_ld_pairN rfl (by omega) KAg.h | exact Q_ld_pair rfl (by omega) KAg.h | exact Q_ld_ord rfl (by omega) KAg.h | exact Q_ld_ownb rfl rfl (by omega) KSc.h)); (focus exact rfl)) | (refine a_cond rfl ?_ ?_ <;> (intro h; (try (have hp := of_decide_eq_true h)); (try (have hp := of_decide_eq_false h)); (try contradiction); (try (exfalso; omega)))) | (((first | apply w_q | apply w_qq); (focus (refine Q_call (by exact callee_of (hcl) rfl) (hg (l.getD k []) (by rw [getD_of (by omega)]; exact List.getElem_mem _)) ?_; ((repeat' (first | exact trivial | exact vwR rfl | exact vwRL rfl | exact Vw.val _ | exact Vw.ro _ | exact Vw.any _ | exact Vw.valro _ | exact Vw.own _ _ rfl | exact Vw.ptr _ _ _ rfl | exact Vw.rpt _ _ | exact Vw.nilro _ | exact Vw.rowro _ _ _ _ rfl (by decide) | exact Vw.rowro2 rfl (by decide) (by with_unfolding_all exact rfl) | refine Vw.agg' ?_ | refine Vw.tup' ?_ | refine Vw.clo' ?_ | refine Vw.boxrpt' rfl (by decide) ?_ | exact Nat.le_of_ble_eq_true rfl | refine ⟨?_, ?_⟩ )); done))); (focus exact rfl))))); (try all_goals (try show retA _ _ _ _ _ _ _))
  · refine ⟨[_], [], ⟨resV_tmp (by conv => lhs; whnf), trivial⟩, VwOs.mk (by decide) trivial, ?_, rfl⟩
    exact Vw.int' (idx_some (by omega) h0 (by rw [← getD_of (by omega) []]; assumption)).symm
  · refine ⟨k + 1, [], ?_, ?_, ?_, rfl⟩ <;> (try dsimp only)
    · refine ⟨by omega, fun i hi hik => ?_⟩
      by_cases hq : i = k
      · subst hq
        rw [← getD_of hi []]; assumption
      · exact h0 i hi (by omega)
    · omega
    · (refine St.le_mk rfl (VwOs.mk (by decide) ?_) ?_ <;> (repeat' (first | exact trivial | exact vwR rfl | exact Vw.val _ | exact Vw.ro _ | exact Vw.any _ | exact Vw.own _ _ rfl | exact Vw.ptr _ _ _ rfl | exact Vw.rpt _ _ | exact Vw.valro _ | exact Vw.nilro _ | exact Vw.rowro _ _ _ _ rfl (by decide) | (refine Vw.int' ?_; first | rfl | omega | (simp; done)) | (refine Vw.bool' ?_; first | rfl | (simp; done)) | refine Vw.agg' ?_ | refine Vw.tup' ?_ | refine Vw.clo' ?_ | exact VwO.row _ _ _ | refine VwO.box' ?_ | exact VwO.gone _ | exact VwO.mp _ | exact VwO.mat _ _ _ | refine ⟨⟨_, rfl, ?_⟩, ?_⟩ | refine ⟨?_, ?_⟩ )))
  · refine ⟨[_], [], ⟨resV_tmp (by conv => lhs; whnf), trivial⟩, VwOs.mk (by decide) trivial, ?_, rfl⟩
    exact Vw.int' (idx_none fun i hi => h0 i hi (by omega)).symm
theorem ContainsR_ac {cl : AV} {g : FuncId} {caps : List AV} [VwR cl] [VwRL caps] (hcl : IsFn cl g caps) (p : List Int → Bool) (l : List (List Int)) (hl : l.length ≤ 9223372036854775807)
    (hg : ∀ x ∈ l, AC Try.prog g (ints x :: caps) [] (.val (.bool (p x))) []) : AC Try.prog 111 [rows l, cl] [] (.val (.bool (l.any p))) [] := by
  refine AC.mk (n := 9) (fn := Try.f111) Try.func111 (by kernel_rfl) rfl rfl rfl rfl (fun cx => ?_); dsimp only [argv, Nat.reduceAdd]
  (repeat' (first | refine a_seq ?_ | refine a_block ?_ | refine a_skip ?_ | refine a_ret ?_ | refine a_exit ?_ | refine a_region ?_ | refine l_nil ?_ | (apply w_q; (focus (first | exact Q_move (by conv => lhs; whnf) | exact Q_assign (by conv => lhs; whnf) | exact Q_geq rfl rfl)); (focus exact rfl)) | (((first | apply w_q | apply w_qq); (focus (refine Q_call (.inl ⟨rfl, rfl⟩) (IndexR_ac hcl p l hl hg) ?_; ((repeat' (first | exact trivial | exact vwR rfl | exact vwRL rfl | exact Vw.val _ | exact Vw.ro _ | exact Vw.any _ | exact Vw.valro _ | exact Vw.own _ _ rfl | exact Vw.ptr _ _ _ rfl | exact Vw.rpt _ _ | exact Vw.nilro _ | exact Vw.rowro _ _ _ _ rfl (by decide) | exact Vw.rowro2 rfl (by decide) (by with_unfolding_all exact rfl) | refine Vw.agg' ?_ | refine Vw.tup' ?_ | refine Vw.clo' ?_ | refine Vw.boxrpt' rfl (by decide) ?_ | exact Nat.le_of_ble_eq_true rfl | refine ⟨?_, ?_⟩ )); done))); (focus exact rfl))))); (try all_goals (try show retA _ _ _ _ _ _ _))
  refine ⟨[_], [], ⟨resV_tmp (by conv => lhs; whnf), trivial⟩, VwOs.mk (by decide) trivial, ?_, rfl⟩
  exact Vw.bool' (idx_any p l)
end Go.Proofs.Ytdbngpkbamhbeaa
