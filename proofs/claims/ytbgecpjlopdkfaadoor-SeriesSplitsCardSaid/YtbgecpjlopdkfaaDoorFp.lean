import Derived.Test.YtbgecpjlopdkfaaDoorFb
import Derived.Test.YtbgecpjlopdkfaaDoorEngT
set_option linter.unusedSimpArgs false
set_option linter.unusedVariables false
set_option linter.unusedSectionVars false
set_option maxRecDepth 20000
namespace Go.Proofs.YtbgecpjlopdkfaaDoor
attribute [local irreducible] QOp aL aC qL
def idx {α : Type} (p : α → Bool) (l : List α) : Int := match l.findIdx? p with
  | some i => i
  | none => -1
theorem idx_some {α : Type} {p : α → Bool} {l : List α} {k : Nat} (hk : k < l.length) (h0 : ∀ i (h : i < l.length), i < k → p l[i] = false) (h1 : p l[k] = true) : idx p l = k := by
  unfold idx
  rw [(List.findIdx?_eq_some_iff_getElem (p := p) (i := k) (xs := l)).2 ⟨hk, h1, fun j hj => by rw [h0 j (by omega) hj]; decide⟩]
theorem idx_none {α : Type} {p : α → Bool} {l : List α} (h0 : ∀ i (h : i < l.length), p l[i] = false) : idx p l = -1 := by
  unfold idx
  rw [List.findIdx?_eq_none_iff.2 (fun x hx => by
    obtain ⟨i, hi, rfl⟩ := List.getElem_of_mem hx
    exact h0 i hi)]
theorem idx_any {α : Type} (p : α → Bool) (l : List α) : decide (idx p l ≥ 0) = l.any p := by
  unfold idx
  cases h : l.findIdx? p with
  | none =>
    have := List.findIdx?_eq_none_iff.1 h
    rw [List.any_eq_false.2 (fun x hx => by rw [this x hx]; decide)]
    rfl
  | some i =>
    obtain ⟨h1, h2, _⟩ := List.findIdx?_eq_some_iff_getElem.1 h
    rw [List.any_eq_true.2 ⟨_, List.getElem_mem h1, h2⟩]
    exact decide_eq_true (by show ((i : Nat) : Int) ≥ 0; omega)
theorem getD_of {α : Type} {l : List α} {k : Nat} (h : k < l.length) (z : α) : l.getD k z = l[k] := by rw [List.getD_eq_getElem?_getD, List.getElem?_eq_getElem h]; rfl

end Go.Proofs.YtbgecpjlopdkfaaDoor
set_option linter.unusedSimpArgs false
set_option linter.unusedVariables false
set_option linter.unusedSectionVars false
set_option maxRecDepth 20000
namespace Go.Proofs.YtbgecpjlopdkfaaDoor
attribute [local irreducible] QOp aL aC qL
def badLen (n : Nat) (f : List Int) : Bool := decide ((f.length : Int) ≠ ((2 ^ n : Nat) : Int))
def badW (w : Int) : Bool := decide (w < 0) || decide (w > 1000)
def wchk (N : Int) (ls : List (List Int)) : Int := if N < 0 ∨ 6 < N then 2 else if ls.any (badLen N.toNat) = true then 1 else if ls.any (fun f => f.any badW) = true then 3 else 0

/-! The reference. -/
/-- Is one of the first k bad. -/
def anyTo {α : Type} (p : α → Bool) (l : List α) (k : Nat) : Bool := (l.take k).any p
end Go.Proofs.YtbgecpjlopdkfaaDoor
set_option linter.unusedSimpArgs false
set_option linter.unusedVariables false
set_option linter.unusedSectionVars false
set_option maxRecDepth 20000
namespace Go.Proofs.YtbgecpjlopdkfaaDoor
attribute [local irreducible] QOp aL aC qL
def sub (a b : Nat) : Bool := ndiff a b == 0
def risesP (n : Nat) (f : List Int) : Bool := (List.range (2 ^ n)).all fun s => (List.range n).all fun p => !decide (f.getD (s ||| 2 ^ p) 0 < f.getD s 0)
def rising (n : Nat) (f : List Int) : Bool := (List.range (2 ^ n)).all fun a => (List.range (2 ^ n)).all fun b => !(sub a b && decide (f.getD a 0 > f.getD b 0))

/-! Walked. -/
end Go.Proofs.YtbgecpjlopdkfaaDoor
set_option linter.unusedSimpArgs false
set_option linter.unusedVariables false
set_option linter.unusedSectionVars false
set_option maxRecDepth 20000
namespace Go.Proofs.YtbgecpjlopdkfaaDoor
attribute [local irreducible] QOp aL aC qL
theorem truthIs_ac (is want : Bool) (e w : Int) : AC Tryd.prog 21 [.val (.bool is), .val (.int .i64 e), .val (.int .i64 w), .val (.bool want)] [] (.val (.bool (decide (e = w) && (is == (want && decide (w = 0)))))) [] := by
  cases is <;> cases want
  all_goals
    refine AC.mk (n := 21) (fn := Tryd.f21) Tryd.func21 (by kernel_rfl) rfl rfl rfl rfl (fun cx => ?_); dsimp only [argv, Nat.reduceAdd]
    (repeat' (first | refine a_seq ?_ | refine a_ret ?_ | refine a_region ?_ | refine l_nil ?_ | (apply w_q; (focus (first | exact Q_move (by conv => lhs; whnf) | exact Q_assign (by conv => lhs; whnf) | exact Q_eql rfl rfl | exact Q_eqlB rfl rfl KBo.h | exact Q_pick_t rfl (by assumption) (by conv => lhs; whnf) | exact Q_pick_f rfl (by assumption) (by conv => lhs; whnf) | exact Q_pick_t rfl rfl (by conv => lhs; whnf) | exact Q_pick_f rfl rfl (by conv => lhs; whnf))); (focus exact rfl)) | refine w_guard_u rfl rfl rfl ?_ | refine w_guard_y rfl rfl rfl (by first | assumption | rfl) ?_ | refine w_guard_n rfl rfl rfl (by first | assumption | rfl) ?_ | (refine w_guard rfl rfl rfl ?_ ?_ <;> (intro h; (try (have hp := of_decide_eq_true h)); (try (have hp := of_decide_eq_false h)); (try contradiction); (try (exfalso; omega)))))); (try all_goals (try show retA _ _ _ _ _ _ _))
    all_goals
      refine ⟨[_], [], ⟨resV_tmp (by conv => lhs; whnf), trivial⟩, VwOs.mk (by decide) trivial, ?_, rfl⟩
      exact Vw.bool' (by simp_all)
end Go.Proofs.YtbgecpjlopdkfaaDoor
