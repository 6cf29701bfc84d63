import Derived.Test.YtgojkabjgagjcaaDoorFx
set_option linter.unusedSimpArgs false
set_option linter.unusedVariables false
set_option linter.unusedSectionVars false
set_option maxRecDepth 20000
namespace Go.Proofs.YtgojkabjgagjcaaDoor
attribute [local irreducible] QOp aL aC qL
def nx (m : Nat) (ns : List Nat) (set : Nat) : Nat → Option Nat
  | 0 => none
  | s + 1 => if lec set s = true ∧ (∀ y, nx m ns set s = some y → lec y s = false) ∧ closC m ns s = true then some s else nx m ns set s
def nextO (m : Nat) (ns : List Nat) (set : Nat) : Option Nat := nx m ns set (2 ^ m)
/-! The reference. -/
def rb (l : List (Nat × Nat)) (set : Nat) : Nat → Option Nat
  | 0 => none
  | i + 1 => if lec set (l.getD i (0, 0)).2 = true ∧ (∀ y, rb l set i = some y → lec (l.getD i (0, 0)).2 y = true) then some (l.getD i (0, 0)).2 else rb l set i
def encO : Option Nat → Int
  | none => -1
  | some x => (x : Int)
def inC (T M : Int) (l : List Int) (set : Int) (b : Bool) : Int := if cchk T M l ≠ 0 then cchk T M l else if 0 ≤ set ∧ set < ((2 ^ (if b = true then M.toNat else T.toNat) : Nat) : Int) then 0 else 3
end Go.Proofs.YtgojkabjgagjcaaDoor
set_option linter.unusedSimpArgs false
set_option linter.unusedVariables false
set_option linter.unusedSectionVars false
set_option maxRecDepth 20000
namespace Go.Proofs.YtgojkabjgagjcaaDoor
attribute [local irreducible] QOp aL aC qL
/-- Of n things the one that a number speaks of. -/
def chooseN (c : Int) (n : Nat) : Nat := (if c < 0 then -(c + 1) else c).toNat % n
theorem choose_lt {c : Int} {n : Nat} (hn : 0 < n) : chooseN c n < n := Nat.mod_lt _ hn
theorem choose_ac (c : Int) (n : Nat) (hn : 0 < n) (hb : n ≤ 9223372036854775807) (hc : -9223372036854775808 ≤ c ∧ c ≤ 9223372036854775807) : AC Tryd.prog 34 [.val (.int .i64 c), .val (.int .i64 n)] [] (.val (.int .i64 (chooseN c n : Nat))) [] := by
  have e : ((chooseN c n : Nat) : Int) = (if c < 0 then -(c + 1) else c) % (n : Int) := by
    unfold chooseN
    rw [Int.natCast_emod]
    congr 1
    split <;> omega
  rw [e]
  refine AC.mk (n := 13) (fn := Tryd.f34) Tryd.func34 (by kernel_rfl) rfl rfl rfl rfl (fun cx => ?_); dsimp only [argv, Nat.reduceAdd]
  (repeat' (first | refine a_seq ?_ | refine a_skip ?_ | refine a_ret ?_ | refine a_region ?_ | refine l_nil ?_ | (apply w_q; (focus (first | exact Q_move (by conv => lhs; whnf) | exact Q_assign (by conv => lhs; whnf) | exact Q_lss rfl rfl | exact Q_add rfl rfl (by omega) | exact Q_neg rfl (by omega))); (focus exact rfl)) | (refine a_cond rfl ?_ ?_ <;> (intro h; (try (have hp := of_decide_eq_true h)); (try (have hp := of_decide_eq_false h)); (try contradiction); (try (exfalso; omega)))) | (((first | apply w_q); (focus exact Q_rem rfl rfl (by omega)); (focus exact rfl))))); (try all_goals (try show retA _ _ _ _ _ _ _))
  · refine ⟨[_], [], ⟨resV_tmp (by conv => lhs; whnf), trivial⟩, VwOs.mk (by decide) trivial, ?_, rfl⟩
    rw [if_pos hp]
    (repeat' (first | exact vwR rfl))
  · refine ⟨[_], [], ⟨resV_tmp (by conv => lhs; whnf), trivial⟩, VwOs.mk (by decide) trivial, ?_, rfl⟩
    rw [if_neg hp]
    (repeat' (first | exact vwR rfl))
/-! What things and marks say of each other. -/
end Go.Proofs.YtgojkabjgagjcaaDoor
