import Derived.Test.YtdbngpkbamhbeaaFo
import Derived.Test.YtdbngpkbamhbeaaEngT
import Derived.Test.YtdbngpkbamhbeaaEngZzc
import Derived.Test.YtdbngpkbamhbeaaEngR
import Derived.Test.YtdbngpkbamhbeaaIp
set_option linter.unusedSimpArgs false
set_option linter.unusedVariables false
set_option linter.unusedSectionVars false
set_option maxRecDepth 20000
namespace Go.Proofs.Ytdbngpkbamhbeaa
attribute [local irreducible] QOp aL aC qL
def obl (s : Nat) (r : Nat × Nat) : Bool := !sub r.1 s || sub r.2 s
def oba (l : List (Nat × Nat)) (s : Nat) : Bool := l.all (obl s)
/-- Rules of n marks. -/
structure Rls (n : Nat) (l : List (Nat × Nat)) : Prop where
  hn : n ≤ 10
  len : l.length ≤ 60
  lt : ∀ r ∈ l, r.1 < 2 ^ n ∧ r.2 < 2 ^ n
/-- What is the least that obeys. -/
structure IsCl (l : List (Nat × Nat)) (s r : Nat) : Prop where
  sup : sub s r = true
  ob : oba l r = true
  least : ∀ t, sub s t = true → oba l t = true → sub r t = true
def clo (n : Nat) (l : List (Nat × Nat)) (s : Nat) : Nat := ((List.range (2 ^ n)).filter fun t => sub s t && oba l t).foldl (fun x y => x &&& y) (2 ^ n - 1)
/-! What is wrong with rules. -/
def rlw (n : Int) (r : Int × Int) : Bool := decide (r.1 < 0 ∨ ((2 ^ n.toNat : Nat) : Int) ≤ r.1 ∨ r.2 < 0 ∨ ((2 ^ n.toNat : Nat) : Int) ≤ r.2)
def rlck (n : Int) (l : List (Int × Int)) : Int := if n < 0 ∨ 10 < n ∨ 60 < l.length then 2 else if l.any (rlw n) = true then 3 else 0
theorem rlck_no {n : Nat} {l : List (Int × Int)} (hn : n ≤ 10) (hl : l.length ≤ 60) (h : ∀ k, k < l.length → 0 ≤ (l.getD k (0, 0)).1 ∧ (l.getD k (0, 0)).1 < ((2 ^ n : Nat) : Int) ∧ 0 ≤ (l.getD k (0, 0)).2 ∧ (l.getD k (0, 0)).2 < ((2 ^ n : Nat) : Int)) : rlck n l = 0 := by
  unfold rlck
  rw [if_neg (by omega), if_neg]
  rw [List.any_eq_true]
  rintro ⟨r, hr, hw⟩
  obtain ⟨k, hk, rfl⟩ := List.getElem_of_mem hr
  unfold rlw at hw
  rw [decide_eq_true_eq, Int.toNat_natCast] at hw
  have := h k hk
  rw [List.getD_eq_getElem?_getD, List.getElem?_eq_getElem hk] at this
  dsimp only [Option.getD] at this
  omega
end Go.Proofs.Ytdbngpkbamhbeaa
set_option linter.unusedSimpArgs false
set_option linter.unusedVariables false
set_option linter.unusedSectionVars false
namespace Go.Proofs.Ytdbngpkbamhbeaa
open Go.ChangeShapes Go.WideShapes Go.RowKit Go.Deep
/-- One of them. -/
abbrev ruA (e : Int × Int) : AV := .agg [.val (.int .i64 e.1), .val (.int .i64 e.2)]
end Go.Proofs.Ytdbngpkbamhbeaa
set_option linter.unusedSimpArgs false
set_option linter.unusedVariables false
set_option linter.unusedSectionVars false
set_option maxRecDepth 20000
namespace Go.Proofs.Ytdbngpkbamhbeaa
attribute [local irreducible] QOp aL aC qL
def clzC (N : Int) (l : List (Int × Int)) (s : Int) : Int := if rlck N l ≠ 0 then rlck N l else if s < 0 ∨ ((2 ^ N.toNat : Nat) : Int) ≤ s then 3 else 0
theorem Rls.ck {n : Nat} {l : List (Nat × Nat)} (h : Rls n l) : rlck n (pn l) = 0 := by
  have hl := pn_len l
  refine rlck_no h.hn (by rw [hl]; exact h.len) fun k hk => ?_
  have hk' : k < l.length := by omega
  have e : (pn l).getD k (0, 0) = (((l.getD k (0, 0)).1 : Int), ((l.getD k (0, 0)).2 : Int)) := by
    unfold pn
    simp [List.getD_eq_getElem?_getD, hk']
  have := h.lt (l.getD k (0, 0)) (by rw [List.getD_eq_getElem?_getD, List.getElem?_eq_getElem hk']; exact List.getElem_mem hk')
  rw [e]
  dsimp only
  omega
def folC (N : Int) (l : List (Int × Int)) (r : Int × Int) : Int := if rlck N l ≠ 0 then rlck N l else if rlw N r = true then 3 else 0
/-! The reference. -/
end Go.Proofs.Ytdbngpkbamhbeaa
set_option linter.unusedSimpArgs false
set_option linter.unusedVariables false
set_option linter.unusedSectionVars false
set_option maxRecDepth 20000
namespace Go.Proofs.Ytdbngpkbamhbeaa
attribute [local irreducible] QOp aL aC qL
def iskU (n : Nat) (l : List (Nat × Nat)) (s m : Nat) : Bool := (List.range m).all fun i => !(s.testBit i && decide (clo n l (ndiff s (2 ^ i)) = 2 ^ n - 1))
def isk (n : Nat) (l : List (Nat × Nat)) (s : Nat) : Bool := decide (clo n l s = 2 ^ n - 1) && iskU n l s n
def keyT (n : Nat) (l : List (Nat × Nat)) (k : Nat) : List Nat := (List.range k).filter (isk n l)
end Go.Proofs.Ytdbngpkbamhbeaa
set_option linter.unusedSimpArgs false
set_option linter.unusedVariables false
set_option linter.unusedSectionVars false
set_option maxRecDepth 20000
namespace Go.Proofs.Ytdbngpkbamhbeaa
attribute [local irreducible] QOp aL aC qL
/-- How many of the first k points a set has. -/
def pcTo (x : Nat) : Nat → Nat
  | 0 => 0
  | k + 1 => pcTo x k + x / 2 ^ k % 2
def oc1 (x : Nat) : Nat := ((x / 2 ^ (1 : Int).toNat % 18446744073709551616 &&& (6148914691236517205 : Int).toNat) + (x % 18446744073709551616 &&& (6148914691236517205 : Int).toNat)) % 18446744073709551616
def oc2 (x : Nat) : Nat := ((x / 2 ^ (2 : Int).toNat % 18446744073709551616 &&& (3689348814741910323 : Int).toNat) + (x % 18446744073709551616 &&& (3689348814741910323 : Int).toNat)) % 18446744073709551616
def oc3 (x : Nat) : Nat := (x / 2 ^ (4 : Int).toNat + x) % 18446744073709551616 % 18446744073709551616 &&& (1085102592571150095 : Int).toNat
def oc4 (x : Nat) : Nat := (x + x / 2 ^ (8 : Int).toNat) % 18446744073709551616
def oc5 (x : Nat) : Nat := (x + x / 2 ^ (16 : Int).toNat) % 18446744073709551616
def oc6 (x : Nat) : Nat := (x + x / 2 ^ (32 : Int).toNat) % 18446744073709551616
def ocn (x : Nat) : Nat := oc6 (oc5 (oc4 (oc3 (oc2 (oc1 x)))))
end Go.Proofs.Ytdbngpkbamhbeaa
set_option linter.unusedSimpArgs false
set_option linter.unusedVariables false
set_option linter.unusedSectionVars false
set_option maxRecDepth 20000
namespace Go.Proofs.Ytdbngpkbamhbeaa
attribute [local irreducible] QOp aL aC qL
theorem ext_getD {a b : List Int} (hl : a.length = b.length) (h : ∀ i, i < a.length → a.getD i 0 = b.getD i 0) : a = b := by
  apply List.ext_getElem hl
  intro i h1 h2
  have := h i h1
  rw [List.getD_eq_getElem?_getD, List.getD_eq_getElem?_getD, List.getElem?_eq_getElem h1, List.getElem?_eq_getElem h2] at this
  exact this
theorem Same_ac (a b : List Int) (ha : a.length ≤ 9223372036854775807) : AC Try.prog 57 [ints a, ints b] [] (.val (.bool (decide (a = b)))) [] := by
  refine AC.mk (n := 26) (fn := Try.f57) Try.func57 (by kernel_rfl) rfl rfl rfl rfl (fun cx => ?_); dsimp only [argv, Nat.reduceAdd]
  (repeat' (first | refine a_seq ?_ | refine a_block ?_ | refine a_skip ?_ | refine a_ret ?_ | refine a_exit ?_ | refine a_region ?_ | refine l_nil ?_ | refine q_nil ?_ | ((first | apply w_q | apply w_qq); (focus (first | exact Q_move (by conv => lhs; whnf) | exact Q_assign (by conv => lhs; whnf) | exact Q_load_ptr rfl rfl rfl KSc.h | exact Q_load_all rfl rfl KAg.h | exact Q_lss rfl rfl | exact Q_neq rfl rfl | exact Q_neqB rfl rfl KBo.h | exact Q_add rfl rfl (by omega) | exact Q_ix_nats rfl rfl rfl KSl.h (by omega) | exact Q_ix_ints rfl rfl rfl KSl.h (by omega) | exact Q_ix_ownN rfl rfl rfl rfl KSl.h (by omega) | exact Q_ix_own rfl rfl rfl rfl KSl.h (by omega) | exact Q_ix_rows rfl rfl rfl KSl.h (by omega) | exact Q_ix_pairsN rfl rfl rfl KSl.h (by omega) | exact Q_ix_pairs rfl rfl rfl KSl.h (by omega) | exact Q_ix_ords rfl rfl rfl KSl.h (by omega) | exact Q_ix_ownb rfl rfl rfl rfl KSl.h (by omega) | exact Q_ix_arr rfl rfl rfl KAr.h (by first | decide | omega) | exact Q_ix_arp rfl rfl rfl KAr.h (by first | decide | omega) | exact Q_ld_rpa rfl KAg.h rfl rfl (by first | (dsimp only [List.drop_zero, List.drop_succ_cons, List.take_succ_cons, List.take_zero, List.map, ofD]; done) | exact rfl) | exact Q_ld_rv rfl rfl KSc.h | exact Q_ld_rs rfl rfl KSc.h | exact Q_ld_nats rfl (by omega) KSc.h | exact Q_ld_ints rfl (by omega) KSc.h | exact Q_ld_ownN rfl rfl (by omega) KSc.h | exact Q_ld_own rfl rfl (by omega) KSc.h | exact Q_ld_rows rfl (by omega) KSc.h | exact Q_ld_pair1N rfl (by omega) KSc.h | exact Q_ld_pair2N rfl (by omega) KSc.h | exact Q_ld_pair1 rfl (by omega) KSc.h | exact Q_ld_pair2 rfl (by omega) KSc.h | exact Q_ld_pairN rfl (by omega) KAg.h | exact Q_ld_pair rfl (by omega) KAg.h | exact Q_neqP rfl rfl inferInstance | exact Q_ld_ord rfl (by omega) KAg.h | exact Q_ld_ownb rfl rfl (by omega) KSc.h | exact Q_len_nats rfl KSl.h | exact Q_len_ints rfl KSl.h | exact Q_len_ownN rfl rfl KSl.h | exact Q_len_own' rfl rfl KSl.h | exact Q_len_rows rfl KSl.h | exact Q_len_pairsN rfl KSl.h | exact Q_len_pairs rfl KSl.h | exact Q_len_ords rfl KSl.h | exact Q_len_nil' rfl KSl.h | exact Q_len_ownp rfl rfl KSl.h)); (focus exact rfl)) | (refine a_cond rfl ?_ ?_ <;> (intro h; (try (have hp := of_decide_eq_true h)); (try (have hp := of_decide_eq_false h)); (try contradiction); (try (exfalso; omega)))) | refine a_draw (by kernel_rfl) (by kernel_rfl) ?_)); (try all_goals (try show retA _ _ _ _ _ _ _))
  · refine ⟨[_], [], ⟨resV_tmp (by conv => lhs; whnf), trivial⟩, VwOs.mk (by decide) trivial, ?_, rfl⟩
    exact Vw.bool' (decide_eq_false (fun h => hp (by rw [h]))).symm
  refine w_loop (X := Nat) [0, 1] (by simp only [keepv, getv_cons, Nat.reduceEqDiff, ↓reduceIte]; exact rfl) (fun k => [(5, .val (.int .i64 (k : Int)))]) (fun k => []) (fun k => k ≤ a.length ∧ ∀ i, i < k → a.getD i 0 = b.getD i 0) (fun k => a.length - k) (0) ([]) ?_ ?_ rfl ?_ <;> (try dsimp only [List.cons_append, List.nil_append])
  · exact ⟨Nat.zero_le _, fun _ h => by omega⟩
  · (refine St.le_mk rfl (VwOs.mk (by decide) ?_) ?_ <;> (repeat' (first | exact trivial | exact vwR rfl | exact Vw.val _ | exact Vw.ro _ | exact Vw.any _ | exact Vw.own _ _ rfl | exact Vw.ptr _ _ _ rfl | exact Vw.rpt _ _ | exact Vw.valro _ | exact Vw.nilro _ | exact Vw.rowro _ _ _ _ rfl (by decide) | (refine Vw.int' ?_; first | rfl | omega | (simp; done)) | (refine Vw.bool' ?_; first | rfl | (simp; done)) | refine Vw.agg' ?_ | refine Vw.tup' ?_ | refine Vw.clo' ?_ | exact VwO.row _ _ _ | refine VwO.box' ?_ | exact VwO.gone _ | exact VwO.mp _ | exact VwO.mat _ _ _ | refine ⟨⟨_, rfl, ?_⟩, ?_⟩ | refine ⟨?_, ?_⟩ )))
  rintro k ⟨hk, hall⟩
  (repeat' (first | refine a_seq ?_ | refine a_block ?_ | refine a_skip ?_ | refine a_ret ?_ | refine a_exit ?_ | refine a_region ?_ | refine l_nil ?_ | refine q_nil ?_ | ((first | apply w_q | apply w_qq); (focus (first | exact Q_move (by conv => lhs; whnf) | exact Q_assign (by conv => lhs; whnf) | exact Q_load_ptr rfl rfl rfl KSc.h | exact Q_load_all rfl rfl KAg.h | exact Q_lss rfl rfl | exact Q_neq rfl rfl | exact Q_neqB rfl rfl KBo.h | exact Q_add rfl rfl (by omega) | exact Q_ix_nats rfl rfl rfl KSl.h (by omega) | exact Q_ix_ints rfl rfl rfl KSl.h (by omega) | exact Q_ix_ownN rfl rfl rfl rfl KSl.h (by omega) | exact Q_ix_own rfl rfl rfl rfl KSl.h (by omega) | exact Q_ix_rows rfl rfl rfl KSl.h (by omega) | exact Q_ix_pairsN rfl rfl rfl KSl.h (by omega) | exact Q_ix_pairs rfl rfl rfl KSl.h (by omega) | exact Q_ix_ords rfl rfl rfl KSl.h (by omega) | exact Q_ix_ownb rfl rfl rfl rfl KSl.h (by omega) | exact Q_ix_arr rfl rfl rfl KAr.h (by first | decide | omega) | exact Q_ix_arp rfl rfl rfl KAr.h (by first | decide | omega) | exact Q_ld_rpa rfl KAg.h rfl rfl (by first | (dsimp only [List.drop_zero, List.drop_succ_cons, List.take_succ_cons, List.take_zero, List.map, ofD]; done) | exact rfl) | exact Q_ld_rv rfl rfl KSc.h | exact Q_ld_rs rfl rfl KSc.h | exact Q_ld_nats rfl (by omega) KSc.h | exact Q_ld_ints rfl (by omega) KSc.h | exact Q_ld_ownN rfl rfl (by omega) KSc.h | exact Q_ld_own rfl rfl (by omega) KSc.h | exact Q_ld_rows rfl (by omega) KSc.h | exact Q_ld_pair1N rfl (by omega) KSc.h | exact Q_ld_pair2N rfl (by omega) KSc.h | exact Q_ld_pair1 rfl (by omega) KSc.h | exact Q_ld_pair2 rfl (by omega) KSc.h | exact Q_ld_pairN rfl (by omega) KAg.h | exact Q_ld_pair rfl (by omega) KAg.h | exact Q_neqP rfl rfl inferInstance | exact Q_ld_ord rfl (by omega) KAg.h | exact Q_ld_ownb rfl rfl (by omega) KSc.h | exact Q_len_nats rfl KSl.h | exact Q_len_ints rfl KSl.h | exact Q_len_ownN rfl rfl KSl.h | exact Q_len_own' rfl rfl KSl.h | exact Q_len_rows rfl KSl.h | exact Q_len_pairsN rfl KSl.h | exact Q_len_pairs rfl KSl.h | exact Q_len_ords rfl KSl.h | exact Q_len_nil' rfl KSl.h | exact Q_len_ownp rfl rfl KSl.h)); (focus exact rfl)) | (refine a_cond rfl ?_ ?_ <;> (intro h; (try (have hp := of_decide_eq_true h)); (try (have hp := of_decide_eq_false h)); (try contradiction); (try (exfalso; omega)))) | refine a_draw (by kernel_rfl) (by kernel_rfl) ?_)); (try all_goals (try show retA _ _ _ _ _ _ _))
  · refine ⟨[_], [], ⟨resV_tmp (by conv => lhs; whnf), trivial⟩, VwOs.mk (by decide) trivial, ?_, rfl⟩
    exact Vw.bool' (decide_eq_false (fun h => hp (by rw [h]))).symm
  · refine ⟨k + 1, [], ?_, ?_, ?_, rfl⟩ <;> (try dsimp only)
    · refine ⟨by omega, fun i hi => ?_⟩
      by_cases hq : i = k
      · subst hq
        exact Decidable.not_not.1 hp
      · exact hall i (by omega)
    · omega
    · (refine St.le_mk rfl (VwOs.mk (by decide) ?_) ?_ <;> (repeat' (first | exact trivial | exact vwR rfl | exact Vw.val _ | exact Vw.ro _ | exact Vw.any _ | exact Vw.own _ _ rfl | exact Vw.ptr _ _ _ rfl | exact Vw.rpt _ _ | exact Vw.valro _ | exact Vw.nilro _ | exact Vw.rowro _ _ _ _ rfl (by decide) | (refine Vw.int' ?_; first | rfl | omega | (simp; done)) | (refine Vw.bool' ?_; first | rfl | (simp; done)) | refine Vw.agg' ?_ | refine Vw.tup' ?_ | refine Vw.clo' ?_ | exact VwO.row _ _ _ | refine VwO.box' ?_ | exact VwO.gone _ | exact VwO.mp _ | exact VwO.mat _ _ _ | refine ⟨⟨_, rfl, ?_⟩, ?_⟩ | refine ⟨?_, ?_⟩ )))
  · refine ⟨[_], [], ⟨resV_tmp (by conv => lhs; whnf), trivial⟩, VwOs.mk (by decide) trivial, ?_, rfl⟩
    exact Vw.bool' (decide_eq_true (ext_getD (by omega) fun i hi => hall i (by omega))).symm
end Go.Proofs.Ytdbngpkbamhbeaa
