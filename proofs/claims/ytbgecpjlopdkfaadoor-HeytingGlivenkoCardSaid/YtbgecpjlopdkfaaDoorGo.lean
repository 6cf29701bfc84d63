import Derived.Test.YtbgecpjlopdkfaaDoorFi
import Derived.Test.YtbgecpjlopdkfaaDoorFm
import Derived.Test.YtbgecpjlopdkfaaDoorFc
import Derived.Test.YtbgecpjlopdkfaaDoorFd
import Derived.Test.YtbgecpjlopdkfaaDoorEngA
import Derived.Test.YtbgecpjlopdkfaaDoorEngZp
set_option linter.unusedSimpArgs false
set_option linter.unusedVariables false
set_option linter.unusedSectionVars false
set_option maxRecDepth 20000
namespace Go.Proofs.YtbgecpjlopdkfaaDoor
attribute [local irreducible] QOp aL aC qL
abbrev ordv (N : Int) (l : List Int) : AV := .agg [.val (.int .i64 N), ints l]
theorem chk_zero {N : Int} {l : List Int} (h : chk N l = 0) : ∃ (n : Nat) (ns : List Nat), N = n ∧ l = nl ns ∧ n ≤ 10 ∧ Vld n ns ∧ okB n ns = true := by
  by_cases h1 : N < 0 ∨ 10 < N
  · rw [chk, if_pos h1] at h; cases h
  by_cases h2 : (l.length : Int) ≠ N
  · rw [chk, if_neg h1, if_pos h2] at h; cases h
  obtain ⟨n, rfl⟩ : ∃ n : Nat, N = n := ⟨N.toNat, by omega⟩
  by_cases h3 : ∃ x ∈ l, x < 0 ∨ x / 2 ^ n ≠ 0
  · rw [chk, if_neg h1, if_neg h2, if_pos (by simpa using h3)] at h; cases h
  have hl : l.length = n := by omega
  obtain ⟨ns, rfl, hns⟩ := nl_valid hl (fun j hj => by
    have hm : l.getD j 0 ∈ l := by rw [List.getD_eq_getElem?_getD, List.getElem?_eq_getElem (by omega)]; exact List.getElem_mem _
    have := fun hx => h3 ⟨_, hm, hx⟩
    constructor
    · by_cases hq : l.getD j 0 < 0
      · exact absurd (.inl hq) this
      · omega
    · by_cases hq : l.getD j 0 / 2 ^ n = 0
      · exact hq
      · exact absurd (.inr hq) this)
  have hl' : ns.length = n := by rw [← hl, nl_len]
  rw [chk_nl (by omega) hl' hns] at h
  refine ⟨n, ns, rfl, rfl, by omega, ⟨hl', hns⟩, ?_⟩
  cases hq : okB n ns
  · rw [hq] at h; cases h
  · rfl
theorem chk_ok {n : Nat} {ns : List Nat} (hn : n ≤ 10) (hv : Vld n ns) (hok : okB n ns = true) : chk n (nl ns) = 0 := by rw [chk_nl hn hv.1 hv.2, if_pos hok]
theorem Upto_ac (N : Int) (l : List Nat) (a b : Nat) (hb : b < l.length) (ha : a ≤ 9223372036854775807) (hl : ∀ x ∈ l, x ≤ 9223372036854775807) :
    AC Tryd.prog 86 [ordv N (nl l), .val (.int .i64 a), .val (.int .i64 b)] [] (.val (.bool (decide (a = b) || lt l a b))) [] := by
  refine AC.mk (n := 16) (fn := Tryd.f86) Tryd.func86 (by kernel_rfl) rfl rfl rfl rfl (fun cx => ?_); dsimp only [argv, Nat.reduceAdd]
  (repeat' (first | refine a_seq ?_ | refine a_ret ?_ | refine a_region ?_ | refine l_nil ?_ | (apply w_q; (focus (first | exact Q_move (by conv => lhs; whnf) | exact Q_assign (by conv => lhs; whnf) | exact Q_load_all rfl rfl KAg.h | exact Q_eql rfl rfl | exact Q_pick_t rfl (by assumption) (by conv => lhs; whnf) | exact Q_pick_f rfl (by assumption) (by conv => lhs; whnf))); (focus exact rfl)) | refine w_guard_y rfl rfl rfl (by first | assumption | rfl) ?_ | refine w_guard_n rfl rfl rfl (by first | assumption | rfl) ?_ | (refine w_guard rfl rfl rfl ?_ ?_ <;> (intro h; (try (have hp := of_decide_eq_true h)); (try (have hp := of_decide_eq_false h)); (try contradiction); (try (exfalso; omega)))) | refine w_box rfl rfl (by first|(dsimp only[obA,obB,obD,obE,obF,obG,obI,List.map,AO.sh,AV.sh,AV.shl,Nat.reduceAdd];done)|exact rfl) (by first|(dsimp only[obA,obB,obD,obE,obF,obG,obI,List.map,AO.sh,AV.sh,AV.shl,Nat.reduceAdd];done)|exact rfl) rfl ?_ | (((first | apply w_q); (focus (refine Q_call (.inl ⟨rfl, rfl⟩) (Less_ac N l a b hb ha hl) ?_; ((repeat' (first | exact trivial | exact vwR rfl | exact vwRL rfl | exact Vw.ro _ | refine Vw.agg' ?_ | refine ⟨?_, ?_⟩ )); done))); (focus exact rfl))))); (try all_goals (try show retA _ _ _ _ _ _ _))
  all_goals
    refine ⟨[_], [], ⟨resV_tmp (by conv => lhs; whnf), trivial⟩, VwOs.mk (by decide) trivial, ?_, rfl⟩
    exact Vw.bool' (by unfold lt; simp <;> omega)
def uptoB (ns : List Nat) (a b : Nat) : Bool := decide (a = b) || lt ns a b
end Go.Proofs.YtbgecpjlopdkfaaDoor
set_option linter.unusedSimpArgs false
set_option linter.unusedVariables false
set_option linter.unusedSectionVars false
set_option maxRecDepth 20000
namespace Go.Proofs.YtbgecpjlopdkfaaDoor
attribute [local irreducible] QOp aL aC qL
def badLen (n : Nat) (f : List Int) : Bool := decide ((f.length : Int) ≠ ((2 ^ n : Nat) : Int))
def badW (w : Int) : Bool := decide (w < 0) || decide (w > 1000)
def wchk (N : Int) (ls : List (List Int)) : Int := if N < 0 ∨ 6 < N then 2 else if ls.any (badLen N.toNat) = true then 1 else if ls.any (fun f => f.any badW) = true then 3 else 0

/-! The reference. -/
/-- Is one of the first k bad. -/
def anyTo {α : Type} (p : α → Bool) (l : List α) (k : Nat) : Bool := (l.take k).any p
end Go.Proofs.YtbgecpjlopdkfaaDoor
set_option linter.unusedSimpArgs false
set_option linter.unusedVariables false
set_option linter.unusedSectionVars false
set_option maxRecDepth 20000
namespace Go.Proofs.YtbgecpjlopdkfaaDoor
attribute [local irreducible] QOp aL aC qL
def sub (a b : Nat) : Bool := ndiff a b == 0
def risesP (n : Nat) (f : List Int) : Bool := (List.range (2 ^ n)).all fun s => (List.range n).all fun p => !decide (f.getD (s ||| 2 ^ p) 0 < f.getD s 0)
def rising (n : Nat) (f : List Int) : Bool := (List.range (2 ^ n)).all fun a => (List.range (2 ^ n)).all fun b => !(sub a b && decide (f.getD a 0 > f.getD b 0))

/-! Walked. -/
end Go.Proofs.YtbgecpjlopdkfaaDoor
set_option linter.unusedSimpArgs false
set_option linter.unusedVariables false
set_option linter.unusedSectionVars false
set_option maxRecDepth 20000
namespace Go.Proofs.YtbgecpjlopdkfaaDoor
attribute [local irreducible] QOp aL aC qL
theorem truthIs_ac (is want : Bool) (e w : Int) : AC Tryd.prog 21 [.val (.bool is), .val (.int .i64 e), .val (.int .i64 w), .val (.bool want)] [] (.val (.bool (decide (e = w) && (is == (want && decide (w = 0)))))) [] := by
  cases is <;> cases want
  all_goals
    refine AC.mk (n := 21) (fn := Tryd.f21) Tryd.func21 (by kernel_rfl) rfl rfl rfl rfl (fun cx => ?_); dsimp only [argv, Nat.reduceAdd]
    (repeat' (first | refine a_seq ?_ | refine a_ret ?_ | refine a_region ?_ | refine l_nil ?_ | (apply w_q; (focus (first | exact Q_move (by conv => lhs; whnf) | exact Q_assign (by conv => lhs; whnf) | exact Q_eql rfl rfl | exact Q_eqlB rfl rfl KBo.h | exact Q_pick_t rfl (by assumption) (by conv => lhs; whnf) | exact Q_pick_f rfl (by assumption) (by conv => lhs; whnf) | exact Q_pick_t rfl rfl (by conv => lhs; whnf) | exact Q_pick_f rfl rfl (by conv => lhs; whnf))); (focus exact rfl)) | refine w_guard_u rfl rfl rfl ?_ | refine w_guard_y rfl rfl rfl (by first | assumption | rfl) ?_ | refine w_guard_n rfl rfl rfl (by first | assumption | rfl) ?_ | (refine w_guard rfl rfl rfl ?_ ?_ <;> (intro h; (try (have hp := of_decide_eq_true h)); (try (have hp := of_decide_eq_false h)); (try contradiction); (try (exfalso; omega)))))); (try all_goals (try show retA _ _ _ _ _ _ _))
    all_goals
      refine ⟨[_], [], ⟨resV_tmp (by conv => lhs; whnf), trivial⟩, VwOs.mk (by decide) trivial, ?_, rfl⟩
      exact Vw.bool' (by simp_all)
end Go.Proofs.YtbgecpjlopdkfaaDoor
set_option linter.unusedSimpArgs false
set_option linter.unusedVariables false
set_option linter.unusedSectionVars false
set_option maxRecDepth 20000
namespace Go.Proofs.YtbgecpjlopdkfaaDoor
attribute [local irreducible] QOp aL aC qL
/-- A list of weights of the sets of n points. -/
def Wts (n : Nat) (f : List Int) : Prop := f.length = 2 ^ n ∧ ∀ w ∈ f, 0 ≤ w ∧ w ≤ 1000
theorem Wts.get {n : Nat} {f : List Int} (h : Wts n f) (s : Nat) : 0 ≤ f.getD s 0 ∧ f.getD s 0 ≤ 1000 := by
  rw [List.getD_eq_getElem?_getD]
  cases hk : f[s]? with
  | none => simp
  | some x => exact h.2 x (List.mem_of_getElem? hk)
def four (n : Nat) (a b c d : List Int) : Bool := (List.range (2 ^ n)).all fun s => (List.range (2 ^ n)).all fun t => !decide (a.getD s 0 * b.getD t 0 > c.getD (s ||| t) 0 * d.getD (s &&& t) 0)
end Go.Proofs.YtbgecpjlopdkfaaDoor
set_option linter.unusedSimpArgs false
set_option linter.unusedVariables false
set_option linter.unusedSectionVars false
set_option maxRecDepth 20000
namespace Go.Proofs.YtbgecpjlopdkfaaDoor
attribute [local irreducible] QOp aL aC qL
/-- The set of the points below k of which p holds. -/
def bs (p : Nat → Bool) : Nat → Nat
  | 0 => 0
  | k + 1 => if p k = true then bs p k + 2 ^ k else bs p k
/-- The order of n points by what is below what. -/
def ofTo (n : Nat) (p : Nat → Nat → Bool) (k : Nat) : List Nat := (List.range k).map fun b => bs (fun a => p a b) n
def ofn (n : Nat) (p : Nat → Nat → Bool) : List Nat := ofTo n p n
end Go.Proofs.YtbgecpjlopdkfaaDoor
set_option linter.unusedSimpArgs false
set_option linter.unusedVariables false
set_option linter.unusedSectionVars false
set_option maxRecDepth 20000
namespace Go.Proofs.YtbgecpjlopdkfaaDoor
attribute [local irreducible] QOp aL aC qL
def lowP (n : Nat) (ns : List Nat) (i : Nat) : Bool := (List.range n).all fun k => !lt ns k i
def highP (n : Nat) (ns : List Nat) (i : Nat) : Bool := (List.range n).all fun k => !lt ns i k
def zeroP (ns : List Nat) (i : Nat) : Bool := decide (ns.getD i 0 = 0)
def hiTo (n : Nat) (ns : List Nat) : Nat → Nat
  | 0 => 2 ^ n - 1
  | b + 1 => ndiff (hiTo n ns b) (ns.getD b 0)
/-! Ideals. -/
def idl (n : Nat) (ns : List Nat) (s : Nat) : Bool := (List.range n).all fun b => !s.testBit b || sub (ns.getD b 0) s
def idTo (n : Nat) (ns : List Nat) (k : Nat) : List Nat := (List.range k).filter (idl n ns)
end Go.Proofs.YtbgecpjlopdkfaaDoor
set_option linter.unusedSimpArgs false
set_option linter.unusedVariables false
set_option linter.unusedSectionVars false
set_option maxRecDepth 20000
namespace Go.Proofs.YtbgecpjlopdkfaaDoor
attribute [local irreducible] QOp aL aC qL
/-- Is something between two points, below k. -/
def btw (ns : List Nat) (a b k : Nat) : Bool := (List.range k).any fun c => lt ns a c && lt ns c b
def rowTo (f : Nat → Nat → Bool) (a b : Nat) : List (Nat × Nat) := ((List.range b).filter (f a)).map fun b => (a, b)
def prsTo (n : Nat) (f : Nat → Nat → Bool) (a : Nat) : List (Nat × Nat) := (List.range a).flatMap fun a => rowTo f a n
/-- The pairs that Pairs tells. -/
def pf (n : Nat) (ns : List Nat) (cv : Bool) (a b : Nat) : Bool := lt ns a b && (!cv || !btw ns a b n)
end Go.Proofs.YtbgecpjlopdkfaaDoor
set_option linter.unusedSimpArgs false
set_option linter.unusedVariables false
set_option linter.unusedSectionVars false
set_option maxRecDepth 20000
namespace Go.Proofs.YtbgecpjlopdkfaaDoor
attribute [local irreducible] QOp aL aC qL
/-- b is reached from a. -/
inductive Reach (l : List (Nat × Nat)) : Nat → Nat → Prop where
  | one {a b : Nat} (h : (a, b) ∈ l) : Reach l a b
  | more {a c b : Nat} (h : Reach l a c) (h2 : (c, b) ∈ l) : Reach l a b
theorem Reach.trans {l : List (Nat × Nat)} {a b c : Nat} (h : Reach l a b) (h2 : Reach l b c) : Reach l a c := by
  induction h2 with
  | one h3 => exact .more h h3
  | more _ h3 ih => exact .more ih h3
theorem Reach.mono {l l' : List (Nat × Nat)} (hl : ∀ p ∈ l, p ∈ l') {a b : Nat} (h : Reach l a b) : Reach l' a b := by
  induction h with
  | one h3 => exact .one (hl _ h3)
  | more _ h3 ih => exact .more ih (hl _ h3)
/-! The pairs, one by one. -/
/-! One round. -/
structure War (n : Nat) (l : List (Nat × Nat)) (k : Nat) (ns : List Nat) : Prop where
  vld : Vld n ns
  sound : ∀ x y, y < n → lt ns x y = true → Reach l x y
  keep : ∀ x y, (x, y) ∈ l → lt ns x y = true
  tr : ∀ c, c < k → ∀ x y, y < n → lt ns x c = true → lt ns c y = true → lt ns x y = true
theorem Reach.lt {n : Nat} {l : List (Nat × Nat)} (hl : ∀ p ∈ l, p.1 < n ∧ p.2 < n) {x y : Nat} (h : Reach l x y) : x < n ∧ y < n := by
  induction h with
  | one h => exact hl _ h
  | more _ h ih => exact ⟨ih.1, (hl _ h).2⟩
end Go.Proofs.YtbgecpjlopdkfaaDoor
set_option linter.unusedSimpArgs false
set_option linter.unusedVariables false
set_option linter.unusedSectionVars false
set_option maxRecDepth 20000
namespace Go.Proofs.YtbgecpjlopdkfaaDoor
def sumTo (g : Nat → Nat) : Nat → Nat
  | 0 => 0
  | k + 1 => sumTo g k + g k
/-- A list of numbers, each of them taken so many times. -/
def dot (w : List Nat) (m : Nat → Nat) (k : Nat) : Nat := sumTo (fun t => w.getD t 0 * m t) k
end Go.Proofs.YtbgecpjlopdkfaaDoor
