import Derived.Test.YtfjpgficpdbelaaHf
import Derived.Test.YtfjpgficpdbelaaHd
set_option linter.unusedSimpArgs false
set_option linter.unusedVariables false
set_option linter.unusedSectionVars false
set_option maxRecDepth 20000
namespace Go.Proofs.Ytfjpgficpdbelaa
attribute [local irreducible] QOp aL aC qL
theorem sumTo_at {g : Nat → Nat} {p : Nat} : ∀ {k : Nat}, p < k → g p ≤ sumTo g k
  | 0, h => by omega
  | k + 1, h => by
    show g p ≤ sumTo g k + g k
    by_cases hp : p = k
    · subst hp; omega
    · have := sumTo_at (g := g) (p := p) (k := k) (by omega)
      omega
theorem may_ex {n : Nat} {ns : List Nat} (hv : Vld n ns) (hok : okB n ns = true) {s : Nat} : ∀ h i, i < n → hgt n ns i ≤ h → s.testBit i = false → ∃ p, p < n ∧ mayO ns s p = true
  | h, i, hi, hh, hs => by
    by_cases hsub : sub (ns.getD i 0) s = true
    · exact ⟨i, hi, by unfold mayO; rw [hs, hsub]; rfl⟩
    · have : ∃ j, (ns.getD i 0).testBit j = true ∧ s.testBit j = false := by
        rcases Classical.em (∃ j, (ns.getD i 0).testBit j = true ∧ s.testBit j = false) with h1 | h1
        · exact h1
        · exfalso
          apply hsub
          rw [sub_iff]
          intro j hj
          cases hq : s.testBit j
          · exact absurd ⟨j, hj, hq⟩ h1
          · rfl
      obtain ⟨j, hj1, hj2⟩ := this
      have hjn : j < n := by
        rcases Nat.lt_or_ge j n with h1 | h1
        · exact h1
        · rw [Nat.testBit_lt_two_pow (Nat.lt_of_lt_of_le (hv.get i) (Nat.pow_le_pow_right (by decide) h1))] at hj1
          cases hj1
      have hup := hgt_up hok hjn hi hj1
      match h with
      | 0 => omega
      | h + 1 => exact may_ex hv hok h j hjn (by omega) hj2
theorem cnt_pos {n : Nat} {ns : List Nat} (hv : Vld n ns) (hok : okB n ns = true) : ∀ f s, mis n s = f → 1 ≤ cnt n (mayO ns) f s
  | 0, s, _ => Nat.le_refl 1
  | f + 1, s, h => by
    have : ∃ i, i < n ∧ s.testBit i = false := by
      rcases Classical.em (∃ i, i < n ∧ s.testBit i = false) with h1 | h1
      · exact h1
      · exfalso
        have := (mis_zero (n := n) (s := s)).2 fun i hi => by
          cases hq : s.testBit i
          · exact absurd ⟨i, hi, hq⟩ h1
          · rfl
        omega
    obtain ⟨i, hi, hs⟩ := this
    obtain ⟨p, hp, hm⟩ := may_ex hv hok _ i hi (Nat.le_refl _) hs
    have h2 := sumTo_at (g := fun p => if mayO ns s p = true then cnt n (mayO ns) f (s ||| 2 ^ p) else 0) hp
    have h3 := mis_add (mayO_not hm) hp
    have h4 := cnt_pos hv hok f (s ||| 2 ^ p) (by omega)
    simp only [hm, if_true] at h2
    show 1 ≤ sumTo _ n
    omega
theorem rest_pos {n : Nat} {ns : List Nat} (hv : Vld n ns) (hok : okB n ns = true) (s : Nat) : 1 ≤ rest n (mayO ns) s := cnt_pos hv hok _ s rfl
/-! The row of a number. -/
structure NthR (n : Nat) (ns : List Nat) (k : Nat) : Prop where
  row : RowN n ns (nthN n ns k)
  rk : rkN n ns (nthN n ns k) n = k
  at' : ∀ j, j < n → ∃ kj, rkN n ns (nthN n ns k) j + kj = k ∧ kj < sumTo (term n (mayO ns) (rsN (nthN n ns k) j)) n ∧ (nthN n ns k).getD j 0 = pk n (mayO ns) (rsN (nthN n ns k) j) kj
def befN (a b : List Nat) (j : Nat) : Prop := a.getD j 0 < b.getD j 0 ∧ ∀ i, i < j → a.getD i 0 = b.getD i 0
/-- Of n things the one that a number speaks of. -/
def chooseT (c : Int) (n : Nat) : Nat := (if c < 0 then -(c + 1) else c).toNat % n
theorem choose_ltT {c : Int} {n : Nat} (hn : 0 < n) : chooseT c n < n := Nat.mod_lt _ hn
theorem choose_acT (c : Int) (n : Nat) (hn : 0 < n) (hb : n ≤ 9223372036854775807) (hc : -9223372036854775808 ≤ c ∧ c ≤ 9223372036854775807) : AC Try.prog 46 [.val (.int .i64 c), .val (.int .i64 n)] [] (.val (.int .i64 (chooseT c n : Nat))) [] := by
  have e : ((chooseT c n : Nat) : Int) = (if c < 0 then -(c + 1) else c) % (n : Int) := by
    unfold chooseT
    rw [Int.natCast_emod]
    congr 1
    split <;> omega
  rw [e]
  refine AC.mk (n := 13) (fn := Try.f46) Try.func46 (by kernel_rfl) rfl rfl rfl rfl (fun cx => ?_); dsimp only [argv, Nat.reduceAdd]
  (repeat' (first | refine a_seq ?_ | refine a_block ?_ | refine a_skip ?_ | refine a_ret ?_ | refine a_exit ?_ | refine a_region ?_ | refine l_nil ?_ | (apply w_q; (focus (first | exact Q_move (by conv => lhs; whnf) | exact Q_assign (by conv => lhs; whnf) | exact Q_lss rfl rfl | exact Q_add rfl rfl (by omega) | exact Q_rem2 rfl rfl | exact Q_neg rfl (by omega))); (focus exact rfl)) | (refine a_cond rfl ?_ ?_ <;> (intro h; (try (have hp := of_decide_eq_true h)); (try (have hp := of_decide_eq_false h)); (try contradiction); (try (exfalso; omega)))) | (((first | apply w_q | apply w_qq); (focus exact Q_add rfl rfl (by omega)); (focus exact rfl))) | (((first | apply w_q | apply w_qq); (focus exact Q_neg rfl (by omega)); (focus exact rfl))) | (((first | apply w_q | apply w_qq); (focus exact Q_rem rfl rfl (by omega)); (focus exact rfl))))); (try all_goals (try show retA _ _ _ _ _ _ _))
  · refine ⟨[_], [], ⟨resV_tmp (by conv => lhs; whnf), trivial⟩, VwOs.mk (by decide) trivial, ?_, rfl⟩
    rw [if_pos hp]
    (repeat' (first | exact trivial | exact vwR rfl | exact vwRL rfl | exact Vw.val _ | exact Vw.ro _ | exact Vw.any _ | exact Vw.valro _ | exact Vw.own _ _ rfl | exact Vw.ptr _ _ _ rfl | exact Vw.rpt _ _ | exact Vw.nilro _ | exact Vw.rowro _ _ _ _ rfl (by decide) | exact Vw.rowro2 rfl (by decide) (by with_unfolding_all exact rfl) | refine Vw.agg' ?_ | refine Vw.tup' ?_ | refine Vw.clo' ?_ | refine Vw.boxrpt' rfl (by decide) ?_ | exact Nat.le_of_ble_eq_true rfl | refine ⟨?_, ?_⟩ ))
  · refine ⟨[_], [], ⟨resV_tmp (by conv => lhs; whnf), trivial⟩, VwOs.mk (by decide) trivial, ?_, rfl⟩
    rw [if_neg hp]
    (repeat' (first | exact trivial | exact vwR rfl | exact vwRL rfl | exact Vw.val _ | exact Vw.ro _ | exact Vw.any _ | exact Vw.valro _ | exact Vw.own _ _ rfl | exact Vw.ptr _ _ _ rfl | exact Vw.rpt _ _ | exact Vw.nilro _ | exact Vw.rowro _ _ _ _ rfl (by decide) | exact Vw.rowro2 rfl (by decide) (by with_unfolding_all exact rfl) | refine Vw.agg' ?_ | refine Vw.tup' ?_ | refine Vw.clo' ?_ | refine Vw.boxrpt' rfl (by decide) ?_ | exact Nat.le_of_ble_eq_true rfl | refine ⟨?_, ?_⟩ ))
end Go.Proofs.Ytfjpgficpdbelaa
