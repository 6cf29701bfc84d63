import Derived.Test.YtbgecpjlopdkfaaDoorFe
import Derived.Test.YtbgecpjlopdkfaaDoorSra
import Derived.Test.YtbgecpjlopdkfaaDoorEngT
set_option linter.unusedSimpArgs false
set_option linter.unusedVariables false
set_option linter.unusedSectionVars false
set_option maxRecDepth 20000
namespace Go.Proofs.YtbgecpjlopdkfaaDoor
attribute [local irreducible] QOp aL aC qL
theorem ext_getD {a b : List Int} (hl : a.length = b.length) (h : ∀ i, i < a.length → a.getD i 0 = b.getD i 0) : a = b := by
  apply List.ext_getElem hl
  intro i h1 h2
  have := h i h1
  rw [List.getD_eq_getElem?_getD, List.getD_eq_getElem?_getD, List.getElem?_eq_getElem h1, List.getElem?_eq_getElem h2] at this
  exact this
theorem Same_ac (a b : List Int) (ha : a.length ≤ 9223372036854775807) : AC Tryd.prog 59 [ints a, ints b] [] (.val (.bool (decide (a = b)))) [] := by
  refine AC.mk (n := 26) (fn := Tryd.f59) Tryd.func59 (by kernel_rfl) rfl rfl rfl rfl (fun cx => ?_); dsimp only [argv, Nat.reduceAdd]
  (repeat' (first | refine a_seq ?_ | refine a_block ?_ | refine a_skip ?_ | refine a_ret ?_ | refine a_region ?_ | refine l_nil ?_ | ((first | apply w_q); (focus (first | exact Q_move (by conv => lhs; whnf) | exact Q_assign (by conv => lhs; whnf) | exact Q_neq rfl rfl | exact Q_len_ints rfl KSl.h)); (focus exact rfl)) | (refine a_cond rfl ?_ ?_ <;> (intro h; (try (have hp := of_decide_eq_true h)); (try (have hp := of_decide_eq_false h)); (try contradiction); (try (exfalso; omega)))))); (try all_goals (try show retA _ _ _ _ _ _ _))
  · refine ⟨[_], [], ⟨resV_tmp (by conv => lhs; whnf), trivial⟩, VwOs.mk (by decide) trivial, ?_, rfl⟩
    exact Vw.bool' (decide_eq_false (fun h => hp (by rw [h]))).symm
  refine w_loop (X := Nat) [0, 1] (by simp only [keepv, getv_cons, Nat.reduceEqDiff, ↓reduceIte]; exact rfl) (fun k => [(5, .val (.int .i64 (k : Int)))]) (fun k => []) (fun k => k ≤ a.length ∧ ∀ i, i < k → a.getD i 0 = b.getD i 0) (fun k => a.length - k) (0) ([]) ?_ ?_ rfl ?_ <;> (try dsimp only [List.cons_append, List.nil_append])
  · exact ⟨Nat.zero_le _, fun _ h => by omega⟩
  · (refine St.le_mk rfl (VwOs.mk (by decide) ?_) ?_ <;> (repeat' (first | exact trivial | exact vwR rfl | exact Vw.ro _ | refine ⟨?_, ?_⟩ )))
  rintro k ⟨hk, hall⟩
  (repeat' (first | refine a_seq ?_ | refine a_block ?_ | refine a_skip ?_ | refine a_ret ?_ | refine a_exit ?_ | refine a_region ?_ | refine l_nil ?_ | refine q_nil ?_ | ((first | apply w_q | apply w_qq); (focus (first | exact Q_move (by conv => lhs; whnf) | exact Q_assign (by conv => lhs; whnf) | exact Q_lss rfl rfl | exact Q_neq rfl rfl | exact Q_add rfl rfl (by omega) | exact Q_ix_ints rfl rfl rfl KSl.h (by omega) | exact Q_ld_ints rfl (by omega) KSc.h | exact Q_len_ints rfl KSl.h)); (focus exact rfl)) | (refine a_cond rfl ?_ ?_ <;> (intro h; (try (have hp := of_decide_eq_true h)); (try (have hp := of_decide_eq_false h)); (try contradiction); (try (exfalso; omega)))) | refine a_draw (by kernel_rfl) (by kernel_rfl) ?_)); (try all_goals (try show retA _ _ _ _ _ _ _))
  · refine ⟨[_], [], ⟨resV_tmp (by conv => lhs; whnf), trivial⟩, VwOs.mk (by decide) trivial, ?_, rfl⟩
    exact Vw.bool' (decide_eq_false (fun h => hp (by rw [h]))).symm
  · refine ⟨k + 1, [], ?_, ?_, ?_, rfl⟩ <;> (try dsimp only)
    · refine ⟨by omega, fun i hi => ?_⟩
      by_cases hq : i = k
      · subst hq
        exact Decidable.not_not.1 hp
      · exact hall i (by omega)
    · omega
    · (refine St.le_mk rfl (VwOs.mk (by decide) ?_) ?_ <;> (repeat' (first | exact trivial | exact vwR rfl | exact Vw.ro _ | refine ⟨?_, ?_⟩ )))
  · refine ⟨[_], [], ⟨resV_tmp (by conv => lhs; whnf), trivial⟩, VwOs.mk (by decide) trivial, ?_, rfl⟩
    exact Vw.bool' (decide_eq_true (ext_getD (by omega) fun i hi => hall i (by omega))).symm
end Go.Proofs.YtbgecpjlopdkfaaDoor
set_option linter.unusedSimpArgs false
set_option linter.unusedVariables false
set_option linter.unusedSectionVars false
set_option maxRecDepth 20000
namespace Go.Proofs.YtbgecpjlopdkfaaDoor

theorem okB_irr {n : Nat} {ns : List Nat} (h : okB n ns = true) {i : Nat} (hi : i < n) : lt ns i i = false := by
  have h1 := List.all_eq_true.1 h i (List.mem_range.2 hi)
  simp only [okRow, Bool.and_eq_true, Bool.not_eq_true'] at h1
  exact h1.1
theorem okB_tr {n : Nat} {ns : List Nat} (h : okB n ns = true) {i j k : Nat} (hi : i < n) (hk : k < n) (h1 : lt ns k i = true) (h2 : lt ns j k = true) : lt ns j i = true := by
  have h3 := List.all_eq_true.1 h i (List.mem_range.2 hi)
  simp only [okRow, Bool.and_eq_true] at h3
  have h4 := List.all_eq_true.1 h3.2 k (List.mem_range.2 hk)
  simp only [okPair, Bool.or_eq_true, Bool.not_eq_true', beq_iff_eq, h1] at h4
  rcases h4 with h4 | h4
  · cases h4
  · exact ndiff_zero.1 h4 j h2

/-- How many are below. -/
def rk (n : Nat) (ns : List Nat) (b : Nat) : Nat := (List.range n).countP fun a => lt ns a b
/-- One step of the greatest. -/
def mx (p : Nat → Bool) (g : Nat → Nat) (j h : Nat) : Nat := if p j = true then max h (g j + 1) else h
def hF (n : Nat) (ns : List Nat) : Nat → Nat → Nat
  | 0, _ => 0
  | f + 1, b => iterN n (mx (fun j => lt ns j b) (hF n ns f)) 0
def hgt (n : Nat) (ns : List Nat) (b : Nat) : Nat := hF n ns (n + 1) b

/-! Rounds. -/
def rlx (ns : List Nat) (b a : Nat) (out : List Nat) : List Nat := if lt ns a b = true then out.set b (max (out.getD b 0) (out.getD a 0 + 1)) else out
def rlxB (n : Nat) (ns : List Nat) (b : Nat) (out : List Nat) : List Nat := iterN n (rlx ns b) out
def rlxR (n : Nat) (ns : List Nat) (_ : Nat) (out : List Nat) : List Nat := iterN n (rlxB n ns) out
def htP (n : Nat) (ns : List Nat) : List Nat := iterN n (rlxR n ns) (List.replicate n 0)

structure Hts (n : Nat) (ns : List Nat) (out : List Nat) : Prop where
  len : out.length = n
  le : ∀ b, b < n → out.getD b 0 ≤ hgt n ns b

end Go.Proofs.YtbgecpjlopdkfaaDoor
set_option linter.unusedSimpArgs false
set_option linter.unusedVariables false
set_option linter.unusedSectionVars false
set_option maxRecDepth 20000
namespace Go.Proofs.YtbgecpjlopdkfaaDoor
attribute [local irreducible] QOp aL aC qL
theorem p2_10 {n : Nat} (h : n ≤ 10) : 2 ^ n ≤ 1024 := Nat.pow_le_pow_right (by decide) h
abbrev ordv (N : Int) (l : List Int) : AV := .agg [.val (.int .i64 N), ints l]
theorem chk_ok {n : Nat} {ns : List Nat} (hn : n ≤ 10) (hv : Vld n ns) (hok : okB n ns = true) : chk n (nl ns) = 0 := by rw [chk_nl hn hv.1 hv.2, if_pos hok]
def uptoB (ns : List Nat) (a b : Nat) : Bool := decide (a = b) || lt ns a b
end Go.Proofs.YtbgecpjlopdkfaaDoor
set_option linter.unusedSimpArgs false
set_option linter.unusedVariables false
set_option linter.unusedSectionVars false
set_option maxRecDepth 20000
namespace Go.Proofs.YtbgecpjlopdkfaaDoor
attribute [local irreducible] QOp aL aC qL
def idx {α : Type} (p : α → Bool) (l : List α) : Int := match l.findIdx? p with
  | some i => i
  | none => -1
theorem idx_some {α : Type} {p : α → Bool} {l : List α} {k : Nat} (hk : k < l.length) (h0 : ∀ i (h : i < l.length), i < k → p l[i] = false) (h1 : p l[k] = true) : idx p l = k := by
  unfold idx
  rw [(List.findIdx?_eq_some_iff_getElem (p := p) (i := k) (xs := l)).2 ⟨hk, h1, fun j hj => by rw [h0 j (by omega) hj]; decide⟩]
theorem idx_none {α : Type} {p : α → Bool} {l : List α} (h0 : ∀ i (h : i < l.length), p l[i] = false) : idx p l = -1 := by
  unfold idx
  rw [List.findIdx?_eq_none_iff.2 (fun x hx => by
    obtain ⟨i, hi, rfl⟩ := List.getElem_of_mem hx
    exact h0 i hi)]
theorem idx_any {α : Type} (p : α → Bool) (l : List α) : decide (idx p l ≥ 0) = l.any p := by
  unfold idx
  cases h : l.findIdx? p with
  | none =>
    have := List.findIdx?_eq_none_iff.1 h
    rw [List.any_eq_false.2 (fun x hx => by rw [this x hx]; decide)]
    rfl
  | some i =>
    obtain ⟨h1, h2, _⟩ := List.findIdx?_eq_some_iff_getElem.1 h
    rw [List.any_eq_true.2 ⟨_, List.getElem_mem h1, h2⟩]
    exact decide_eq_true (by show ((i : Nat) : Int) ≥ 0; omega)
theorem getD_of {α : Type} {l : List α} {k : Nat} (h : k < l.length) (z : α) : l.getD k z = l[k] := by rw [List.getD_eq_getElem?_getD, List.getElem?_eq_getElem h]; rfl

end Go.Proofs.YtbgecpjlopdkfaaDoor
set_option linter.unusedSimpArgs false
set_option linter.unusedVariables false
set_option linter.unusedSectionVars false
set_option maxRecDepth 20000
namespace Go.Proofs.YtbgecpjlopdkfaaDoor
attribute [local irreducible] QOp aL aC qL
def badLen (n : Nat) (f : List Int) : Bool := decide ((f.length : Int) ≠ ((2 ^ n : Nat) : Int))
def badW (w : Int) : Bool := decide (w < 0) || decide (w > 1000)
def wchk (N : Int) (ls : List (List Int)) : Int := if N < 0 ∨ 6 < N then 2 else if ls.any (badLen N.toNat) = true then 1 else if ls.any (fun f => f.any badW) = true then 3 else 0

/-! The reference. -/
/-- Is one of the first k bad. -/
def anyTo {α : Type} (p : α → Bool) (l : List α) (k : Nat) : Bool := (l.take k).any p
end Go.Proofs.YtbgecpjlopdkfaaDoor
