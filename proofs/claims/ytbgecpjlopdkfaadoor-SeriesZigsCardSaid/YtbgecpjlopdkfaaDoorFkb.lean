import Derived.Test.YtbgecpjlopdkfaaDoorFhb
import Derived.Test.YtbgecpjlopdkfaaDoorFi
set_option linter.unusedSimpArgs false
set_option linter.unusedVariables false
set_option linter.unusedSectionVars false
set_option maxRecDepth 20000
namespace Go.Proofs.YtbgecpjlopdkfaaDoor
attribute [local irreducible] QOp aL aC qL
theorem p2_10 {n : Nat} (h : n ≤ 10) : 2 ^ n ≤ 1024 := Nat.pow_le_pow_right (by decide) h
abbrev ordv (N : Int) (l : List Int) : AV := .agg [.val (.int .i64 N), ints l]
theorem chk_zero {N : Int} {l : List Int} (h : chk N l = 0) : ∃ (n : Nat) (ns : List Nat), N = n ∧ l = nl ns ∧ n ≤ 10 ∧ Vld n ns ∧ okB n ns = true := by
  by_cases h1 : N < 0 ∨ 10 < N
  · rw [chk, if_pos h1] at h; cases h
  by_cases h2 : (l.length : Int) ≠ N
  · rw [chk, if_neg h1, if_pos h2] at h; cases h
  obtain ⟨n, rfl⟩ : ∃ n : Nat, N = n := ⟨N.toNat, by omega⟩
  by_cases h3 : ∃ x ∈ l, x < 0 ∨ x / 2 ^ n ≠ 0
  · rw [chk, if_neg h1, if_neg h2, if_pos (by simpa using h3)] at h; cases h
  have hl : l.length = n := by omega
  obtain ⟨ns, rfl, hns⟩ := nl_valid hl (fun j hj => by
    have hm : l.getD j 0 ∈ l := by rw [List.getD_eq_getElem?_getD, List.getElem?_eq_getElem (by omega)]; exact List.getElem_mem _
    have := fun hx => h3 ⟨_, hm, hx⟩
    constructor
    · by_cases hq : l.getD j 0 < 0
      · exact absurd (.inl hq) this
      · omega
    · by_cases hq : l.getD j 0 / 2 ^ n = 0
      · exact hq
      · exact absurd (.inr hq) this)
  have hl' : ns.length = n := by rw [← hl, nl_len]
  rw [chk_nl (by omega) hl' hns] at h
  refine ⟨n, ns, rfl, rfl, by omega, ⟨hl', hns⟩, ?_⟩
  cases hq : okB n ns
  · rw [hq] at h; cases h
  · rfl
theorem chk_ok {n : Nat} {ns : List Nat} (hn : n ≤ 10) (hv : Vld n ns) (hok : okB n ns = true) : chk n (nl ns) = 0 := by rw [chk_nl hn hv.1 hv.2, if_pos hok]
theorem numbersAre_ac (l want : List Int) (e w : Int) (hl : l.length ≤ 9223372036854775807) : AC Tryd.prog 19 [ints l, .val (.int .i64 e), .val (.int .i64 w), ints want] [] (.val (.bool (decide (e = w) && decide (l = if w ≠ 0 then [] else want)))) [] := by
  refine AC.mk (n := 19) (fn := Tryd.f19) Tryd.func19 (by kernel_rfl) rfl rfl rfl rfl (fun cx => ?_); dsimp only [argv, Nat.reduceAdd]
  (repeat' (first | refine a_seq ?_ | refine a_skip ?_ | refine a_ret ?_ | refine a_region ?_ | refine l_nil ?_ | (apply w_q; (focus (first | exact Q_move (by conv => lhs; whnf) | exact Q_assign (by conv => lhs; whnf) | exact Q_eql rfl rfl | exact Q_neq rfl rfl | exact Q_pick_t rfl (by assumption) (by conv => lhs; whnf) | exact Q_pick_f rfl (by assumption) (by conv => lhs; whnf))); (focus exact rfl)) | (refine a_cond rfl ?_ ?_ <;> (intro h; (try (have hp := of_decide_eq_true h)); (try (have hp := of_decide_eq_false h)); (try contradiction); (try (exfalso; omega)))) | refine w_guard_y rfl rfl rfl (by first | assumption | rfl) ?_ | refine w_guard_n rfl rfl rfl (by first | assumption | rfl) ?_ | (refine w_guard rfl rfl rfl ?_ ?_ <;> (intro h; (try (have hp := of_decide_eq_true h)); (try (have hp := of_decide_eq_false h)); (try contradiction); (try (exfalso; omega)))) | (((first | apply w_q); (focus (refine Q_call (.inl ⟨rfl, rfl⟩) (Same_ac l want hl) ?_; ((repeat' (first | exact trivial | exact Vw.ro _ | refine ⟨?_, ?_⟩ )); done))); (focus exact rfl))) | (((first | apply w_q); (focus (refine Q_call (.inl ⟨rfl, rfl⟩) (Same_ac l [] hl) ?_; ((repeat' (first | exact trivial | exact Vw.ro _ | exact Vw.nilro _ | refine ⟨?_, ?_⟩ )); done))); (focus exact rfl))))); (try all_goals (try show retA _ _ _ _ _ _ _))
  all_goals
    refine ⟨[_], [], ⟨resV_tmp (by conv => lhs; whnf), trivial⟩, VwOs.mk (by decide) trivial, ?_, rfl⟩
    exact Vw.bool' (by simp_all)
def uptoB (ns : List Nat) (a b : Nat) : Bool := decide (a = b) || lt ns a b
end Go.Proofs.YtbgecpjlopdkfaaDoor
