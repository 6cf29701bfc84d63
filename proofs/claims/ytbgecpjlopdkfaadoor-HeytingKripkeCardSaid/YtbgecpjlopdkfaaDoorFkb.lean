import Derived.Test.YtbgecpjlopdkfaaDoorFd
set_option linter.unusedSimpArgs false
set_option linter.unusedVariables false
set_option linter.unusedSectionVars false
set_option maxRecDepth 20000
namespace Go.Proofs.YtbgecpjlopdkfaaDoor
attribute [local irreducible] QOp aL aC qL
theorem All1_ac (N : Int) (l : List Int) : AC Tryd.prog 98 [ords [(N, l)]] [] (.val (.int .i64 (chk N l))) [] := by
  refine AC.mk (n := 18) (fn := Tryd.f98) Tryd.func98 (by kernel_rfl) rfl rfl rfl rfl (fun cx => ?_); dsimp only [argv, Nat.reduceAdd]
  (repeat' (first | refine a_seq ?_ | refine a_block ?_ | refine a_region ?_ | refine l_nil ?_ | (apply w_q; (focus (first | exact Q_move (by conv => lhs; whnf) | exact Q_assign (by conv => lhs; whnf) | exact Q_len_ords rfl KSl.h)); (focus exact rfl)))); (try all_goals (try show retA _ _ _ _ _ _ _))
  refine w_loop (X := Nat) [6, 7] (by simp only [keepv, getv_cons, Nat.reduceEqDiff, ↓reduceIte]; exact rfl) (fun k => [(8, .val (.int .i64 (k : Int)))]) (fun _ => []) (fun k => k ≤ 1 ∧ (k = 1 → chk N l = 0)) (fun k => 1 - k) (0) ([]) ?_ ?_ rfl ?_ <;> (try dsimp only [List.cons_append, List.nil_append])
  · exact ⟨Nat.zero_le _, fun h => by omega⟩
  · (refine St.le_mk rfl (VwOs.mk (by decide) ?_) ?_ <;> (repeat' (first | exact trivial | exact vwR rfl | refine ⟨?_, ?_⟩ )))
  rintro k ⟨hk, h0⟩
  (repeat' (first | refine a_seq ?_ | refine a_block ?_ | refine a_skip ?_ | refine a_ret ?_ | refine a_exit ?_ | refine a_region ?_ | refine l_nil ?_ | (apply w_q; (focus (first | exact Q_move (by conv => lhs; whnf) | exact Q_assign (by conv => lhs; whnf) | exact Q_load_all rfl rfl KAg.h | exact Q_lss rfl rfl | exact Q_neq rfl rfl | exact Q_add rfl rfl (by omega) | exact Q_ix_ords rfl rfl rfl KSl.h (by omega) | exact Q_ld_ord rfl (by omega) KAg.h)); (focus exact rfl)) | (refine a_cond rfl ?_ ?_ <;> (intro h; (try (have hp := of_decide_eq_true h)); (try (have hp := of_decide_eq_false h)); (try contradiction); (try (exfalso; omega)))) | refine w_alloc KMk.h (by first|(dsimp only[obA,obB,obD,obE,obF,obG,obI,List.map,AO.sh,AV.sh,AV.shl,Nat.reduceAdd];done)|exact rfl) rfl (by first|(dsimp only[obA,obB,obD,obE,obF,obG,obI,List.map,AO.sh,AV.sh,AV.shl,Nat.reduceAdd];done)|exact rfl) (by first|(dsimp only[obA,obB,obD,obE,obF,obG,obI,List.map,AO.sh,AV.sh,AV.shl,Nat.reduceAdd];done)|exact rfl) rfl ?_ | refine w_store_all rfl rfl rfl rfl rfl KSz.h (by first|(dsimp only[obA,obB,obD,obE,obF,obG,obI,List.map,AO.sh,AV.sh,AV.shl,Nat.reduceAdd];done)|exact rfl) ?_ | (((first | apply w_q); (focus (refine Q_call (.inl ⟨rfl, rfl⟩) (check_ac ?_ ?_) ?_; rotate_left 2; (focus ((repeat' (first | exact trivial | exact Vw.val _ | exact Vw.ro _ | refine Vw.agg' ?_ | refine ⟨?_, ?_⟩ )); done)); all_goals (skip))); (focus exact rfl))))); (try all_goals (try show retA _ _ _ _ _ _ _))
  · refine ⟨[_], [], ⟨resV_tmp (by conv => lhs; whnf), trivial⟩, VwOs.mk (by decide) trivial, ?_, rfl⟩
    obtain rfl : k = 0 := by simp at *; omega
    exact Vw.val _
  · refine ⟨k + 1, [], ?_, ?_, ?_, rfl⟩ <;> (try dsimp only)
    · obtain rfl : k = 0 := by simp at *; omega
      exact ⟨Nat.le_refl _, fun _ => Decidable.not_not.1 hp⟩
    · simp at *; omega
    · (refine St.le_mk rfl (VwOs.mk (by decide) ?_) ?_ <;> (repeat' (first | exact trivial | exact vwR rfl | refine ⟨?_, ?_⟩ )))
  · refine ⟨[_], [], ⟨resV_tmp (by conv => lhs; whnf), trivial⟩, VwOs.mk (by decide) trivial, ?_, rfl⟩
    exact Vw.int' (h0 (by simp at *; omega)).symm
theorem Check_ac (N : Int) (l : List Int) : AC Tryd.prog 52 [.agg [.val (.int .i64 N), ints l]] [] (.val (.int .i64 (chk N l))) [] := by
  refine AC.mk (n := 6) (fn := Tryd.f52) Tryd.func52 (by kernel_rfl) rfl rfl rfl rfl (fun cx => ?_); dsimp only [argv, Nat.reduceAdd]
  (repeat' (first | refine a_seq ?_ | refine a_ret ?_ | refine a_region ?_ | refine l_nil ?_ | (apply w_q; (focus (first | exact Q_assign (by conv => lhs; whnf) | exact Q_load_all rfl rfl KAg.h)); (focus exact rfl)) | refine w_box rfl rfl (by first|(dsimp only[obA,obB,obD,obE,obF,obG,obI,List.map,AO.sh,AV.sh,AV.shl,Nat.reduceAdd];done)|exact rfl) (by first|(dsimp only[obA,obB,obD,obE,obF,obG,obI,List.map,AO.sh,AV.sh,AV.shl,Nat.reduceAdd];done)|exact rfl) rfl ?_ | refine w_lit_ord rfl KSl.h KMk.h (by first|(dsimp only[obA,obB,obD,obE,obF,obG,obI,List.map,AO.sh,AV.sh,AV.shl,Nat.reduceAdd];done)|exact rfl) (by first|(dsimp only[obA,obB,obD,obE,obF,obG,obI,List.map,AO.sh,AV.sh,AV.shl,Nat.reduceAdd];done)|exact rfl) rfl ?_ | (((first | apply w_q); (focus (refine Q_call (.inl ⟨rfl, rfl⟩) (All1_ac ?_ ?_) ?_; rotate_left 2; (focus ((repeat' (first | exact trivial | exact Vw.rowro2 rfl (by decide) (by with_unfolding_all exact rfl) | refine ⟨?_, ?_⟩ )); done)); all_goals (skip))); (focus exact rfl))))); (try all_goals (try show retA _ _ _ _ _ _ _))
  refine ⟨[_], [], ⟨resV_tmp (by conv => lhs; whnf), trivial⟩, VwOs.mk (by decide) trivial, ?_, rfl⟩
  exact Vw.val _
end Go.Proofs.YtbgecpjlopdkfaaDoor
set_option linter.unusedSimpArgs false
set_option linter.unusedVariables false
set_option linter.unusedSectionVars false
set_option maxRecDepth 20000
namespace Go.Proofs.YtbgecpjlopdkfaaDoor
attribute [local irreducible] QOp aL aC qL
def stA (l : List (Nat × Nat)) (i : Nat) (ns : List Nat) : List Nat := ns.set (l.getD i (0, 0)).2 (ns.getD (l.getD i (0, 0)).2 0 ||| 2 ^ (l.getD i (0, 0)).1)
def stB (k b : Nat) (ns : List Nat) : List Nat := if lt ns k b = true then ns.set b (ns.getD b 0 ||| ns.getD k 0) else ns
def rowB (n k : Nat) (ns : List Nat) : List Nat := iterN n (stB k) ns
def clos (n : Nat) (l : List (Nat × Nat)) : List Nat := iterN n (rowB n) (iterN l.length (stA l) (List.replicate n 0))
def irr (n : Nat) (ns : List Nat) : Bool := (List.range n).all fun b => !lt ns b b

end Go.Proofs.YtbgecpjlopdkfaaDoor
set_option linter.unusedSimpArgs false
set_option linter.unusedVariables false
set_option linter.unusedSectionVars false
set_option maxRecDepth 20000
namespace Go.Proofs.YtbgecpjlopdkfaaDoor
attribute [local irreducible] QOp aL aC qL
def okP (N : Int) (p : Int × Int) : Bool := decide (0 ≤ p.1 ∧ p.1 < N ∧ 0 ≤ p.2 ∧ p.2 < N)
def toN (l : List (Int × Int)) : List (Nat × Nat) := l.map fun p => (p.1.toNat, p.2.toNat)
/-- What the program answers: the error's number. -/
def mkE (N : Int) (l : List (Int × Int)) : Int := if N < 0 ∨ 10 < N then 2 else if l.all (okP N) = false then 3 else if irr N.toNat (clos N.toNat (toN l)) = true then 0 else 4
def mkA (N e : Int) : AV := bif decide (e = 0) then .tup [.agg [.val (.int .i64 N), .own 0], .val (.int .i64 0)] else .tup [.agg [.val (.int .i64 0), .val (.slice none 0 0)], .val (.int .i64 e)]
def mkO (t : TypeId) (N : Int) (l : List (Int × Int)) (e : Int) : List AO := bif decide (e = 0) then [.row t 1 (intc (nl (clos N.toNat (toN l))))] else []

end Go.Proofs.YtbgecpjlopdkfaaDoor
set_option linter.unusedSimpArgs false
set_option linter.unusedVariables false
set_option linter.unusedSectionVars false
set_option maxRecDepth 20000
namespace Go.Proofs.YtbgecpjlopdkfaaDoor

theorem okB_irr {n : Nat} {ns : List Nat} (h : okB n ns = true) {i : Nat} (hi : i < n) : lt ns i i = false := by
  have h1 := List.all_eq_true.1 h i (List.mem_range.2 hi)
  simp only [okRow, Bool.and_eq_true, Bool.not_eq_true'] at h1
  exact h1.1
theorem okB_tr {n : Nat} {ns : List Nat} (h : okB n ns = true) {i j k : Nat} (hi : i < n) (hk : k < n) (h1 : lt ns k i = true) (h2 : lt ns j k = true) : lt ns j i = true := by
  have h3 := List.all_eq_true.1 h i (List.mem_range.2 hi)
  simp only [okRow, Bool.and_eq_true] at h3
  have h4 := List.all_eq_true.1 h3.2 k (List.mem_range.2 hk)
  simp only [okPair, Bool.or_eq_true, Bool.not_eq_true', beq_iff_eq, h1] at h4
  rcases h4 with h4 | h4
  · cases h4
  · exact ndiff_zero.1 h4 j h2

/-- How many are below. -/
def rk (n : Nat) (ns : List Nat) (b : Nat) : Nat := (List.range n).countP fun a => lt ns a b
/-- One step of the greatest. -/
def mx (p : Nat → Bool) (g : Nat → Nat) (j h : Nat) : Nat := if p j = true then max h (g j + 1) else h
def hF (n : Nat) (ns : List Nat) : Nat → Nat → Nat
  | 0, _ => 0
  | f + 1, b => iterN n (mx (fun j => lt ns j b) (hF n ns f)) 0
def hgt (n : Nat) (ns : List Nat) (b : Nat) : Nat := hF n ns (n + 1) b

/-! Rounds. -/
def rlx (ns : List Nat) (b a : Nat) (out : List Nat) : List Nat := if lt ns a b = true then out.set b (max (out.getD b 0) (out.getD a 0 + 1)) else out
def rlxB (n : Nat) (ns : List Nat) (b : Nat) (out : List Nat) : List Nat := iterN n (rlx ns b) out
def rlxR (n : Nat) (ns : List Nat) (_ : Nat) (out : List Nat) : List Nat := iterN n (rlxB n ns) out
def htP (n : Nat) (ns : List Nat) : List Nat := iterN n (rlxR n ns) (List.replicate n 0)

structure Hts (n : Nat) (ns : List Nat) (out : List Nat) : Prop where
  len : out.length = n
  le : ∀ b, b < n → out.getD b 0 ≤ hgt n ns b

end Go.Proofs.YtbgecpjlopdkfaaDoor
set_option linter.unusedSimpArgs false
set_option linter.unusedVariables false
set_option linter.unusedSectionVars false
set_option maxRecDepth 20000
namespace Go.Proofs.YtbgecpjlopdkfaaDoor
attribute [local irreducible] QOp aL aC qL
theorem p2_10 {n : Nat} (h : n ≤ 10) : 2 ^ n ≤ 1024 := Nat.pow_le_pow_right (by decide) h
abbrev ordv (N : Int) (l : List Int) : AV := .agg [.val (.int .i64 N), ints l]
theorem chk_zero {N : Int} {l : List Int} (h : chk N l = 0) : ∃ (n : Nat) (ns : List Nat), N = n ∧ l = nl ns ∧ n ≤ 10 ∧ Vld n ns ∧ okB n ns = true := by
  by_cases h1 : N < 0 ∨ 10 < N
  · rw [chk, if_pos h1] at h; cases h
  by_cases h2 : (l.length : Int) ≠ N
  · rw [chk, if_neg h1, if_pos h2] at h; cases h
  obtain ⟨n, rfl⟩ : ∃ n : Nat, N = n := ⟨N.toNat, by omega⟩
  by_cases h3 : ∃ x ∈ l, x < 0 ∨ x / 2 ^ n ≠ 0
  · rw [chk, if_neg h1, if_neg h2, if_pos (by simpa using h3)] at h; cases h
  have hl : l.length = n := by omega
  obtain ⟨ns, rfl, hns⟩ := nl_valid hl (fun j hj => by
    have hm : l.getD j 0 ∈ l := by rw [List.getD_eq_getElem?_getD, List.getElem?_eq_getElem (by omega)]; exact List.getElem_mem _
    have := fun hx => h3 ⟨_, hm, hx⟩
    constructor
    · by_cases hq : l.getD j 0 < 0
      · exact absurd (.inl hq) this
      · omega
    · by_cases hq : l.getD j 0 / 2 ^ n = 0
      · exact hq
      · exact absurd (.inr hq) this)
  have hl' : ns.length = n := by rw [← hl, nl_len]
  rw [chk_nl (by omega) hl' hns] at h
  refine ⟨n, ns, rfl, rfl, by omega, ⟨hl', hns⟩, ?_⟩
  cases hq : okB n ns
  · rw [hq] at h; cases h
  · rfl
theorem chk_ok {n : Nat} {ns : List Nat} (hn : n ≤ 10) (hv : Vld n ns) (hok : okB n ns = true) : chk n (nl ns) = 0 := by rw [chk_nl hn hv.1 hv.2, if_pos hok]
theorem Upto_ac (N : Int) (l : List Nat) (a b : Nat) (hb : b < l.length) (ha : a ≤ 9223372036854775807) (hl : ∀ x ∈ l, x ≤ 9223372036854775807) :
    AC Tryd.prog 86 [ordv N (nl l), .val (.int .i64 a), .val (.int .i64 b)] [] (.val (.bool (decide (a = b) || lt l a b))) [] := by
  refine AC.mk (n := 16) (fn := Tryd.f86) Tryd.func86 (by kernel_rfl) rfl rfl rfl rfl (fun cx => ?_); dsimp only [argv, Nat.reduceAdd]
  (repeat' (first | refine a_seq ?_ | refine a_ret ?_ | refine a_region ?_ | refine l_nil ?_ | (apply w_q; (focus (first | exact Q_move (by conv => lhs; whnf) | exact Q_assign (by conv => lhs; whnf) | exact Q_load_all rfl rfl KAg.h | exact Q_eql rfl rfl | exact Q_pick_t rfl (by assumption) (by conv => lhs; whnf) | exact Q_pick_f rfl (by assumption) (by conv => lhs; whnf))); (focus exact rfl)) | refine w_guard_y rfl rfl rfl (by first | assumption | rfl) ?_ | refine w_guard_n rfl rfl rfl (by first | assumption | rfl) ?_ | (refine w_guard rfl rfl rfl ?_ ?_ <;> (intro h; (try (have hp := of_decide_eq_true h)); (try (have hp := of_decide_eq_false h)); (try contradiction); (try (exfalso; omega)))) | refine w_box rfl rfl (by first|(dsimp only[obA,obB,obD,obE,obF,obG,obI,List.map,AO.sh,AV.sh,AV.shl,Nat.reduceAdd];done)|exact rfl) (by first|(dsimp only[obA,obB,obD,obE,obF,obG,obI,List.map,AO.sh,AV.sh,AV.shl,Nat.reduceAdd];done)|exact rfl) rfl ?_ | (((first | apply w_q); (focus (refine Q_call (.inl ⟨rfl, rfl⟩) (Less_ac N l a b hb ha hl) ?_; ((repeat' (first | exact trivial | exact vwR rfl | exact vwRL rfl | exact Vw.ro _ | refine Vw.agg' ?_ | refine ⟨?_, ?_⟩ )); done))); (focus exact rfl))))); (try all_goals (try show retA _ _ _ _ _ _ _))
  all_goals
    refine ⟨[_], [], ⟨resV_tmp (by conv => lhs; whnf), trivial⟩, VwOs.mk (by decide) trivial, ?_, rfl⟩
    exact Vw.bool' (by unfold lt; simp <;> omega)
def uptoB (ns : List Nat) (a b : Nat) : Bool := decide (a = b) || lt ns a b
end Go.Proofs.YtbgecpjlopdkfaaDoor
