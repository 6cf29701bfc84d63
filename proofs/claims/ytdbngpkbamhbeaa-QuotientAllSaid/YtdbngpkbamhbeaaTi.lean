import Derived.Test.YtdbngpkbamhbeaaFo
import Derived.Test.YtdbngpkbamhbeaaEngZzc
import Derived.Test.YtdbngpkbamhbeaaEngR
import Derived.Test.YtdbngpkbamhbeaaFm
import Derived.Test.YtdbngpkbamhbeaaIp
set_option linter.unusedSimpArgs false
set_option linter.unusedVariables false
set_option linter.unusedSectionVars false
set_option maxRecDepth 20000
namespace Go.Proofs.Ytdbngpkbamhbeaa
attribute [local irreducible] QOp aL aC qL
def okP (N : Int) (p : Int × Int) : Bool := decide (0 ≤ p.1 ∧ p.1 < N ∧ 0 ≤ p.2 ∧ p.2 < N)
def toN (l : List (Int × Int)) : List (Nat × Nat) := l.map fun p => (p.1.toNat, p.2.toNat)
/-- What the program answers: the error's number. -/
def mkE (N : Int) (l : List (Int × Int)) : Int := if N < 0 ∨ 10 < N then 2 else if l.all (okP N) = false then 3 else if irr N.toNat (clos N.toNat (toN l)) = true then 0 else 4
def mkA (N e : Int) : AV := bif decide (e = 0) then .tup [.agg [.val (.int .i64 N), .own 0], .val (.int .i64 0)] else .tup [.agg [.val (.int .i64 0), .val (.slice none 0 0)], .val (.int .i64 e)]
def mkO (t : TypeId) (N : Int) (l : List (Int × Int)) (e : Int) : List AO := bif decide (e = 0) then [.row t 1 (intc (nl (clos N.toNat (toN l))))] else []

end Go.Proofs.Ytdbngpkbamhbeaa
set_option linter.unusedSimpArgs false
set_option linter.unusedVariables false
set_option linter.unusedSectionVars false
namespace Go.Proofs.Ytdbngpkbamhbeaa
open Go.ChangeShapes Go.WideShapes Go.RowKit Go.Deep
def trc : List (Int × Int × Int) → List Dat
  | [] => []
  | e :: r => .val (.int .i64 e.1) :: .val (.int .i64 e.2.1) :: .val (.int .i64 e.2.2) :: trc r
abbrev trs (l : List (Int × Int × Int)) : AV := .ro (.sl 3 (trc l))
/-- One of them. -/
abbrev trA (e : Int × Int × Int) : AV := .agg [.val (.int .i64 e.1), .val (.int .i64 e.2.1), .val (.int .i64 e.2.2)]
end Go.Proofs.Ytdbngpkbamhbeaa
set_option linter.unusedSimpArgs false
set_option linter.unusedVariables false
set_option linter.unusedSectionVars false
set_option maxRecDepth 20000
namespace Go.Proofs.Ytdbngpkbamhbeaa
attribute [local irreducible] QOp aL aC qL
abbrev Ev : Type := Int × Int × Int
/-- The i-th event. -/
abbrev evA (l : List Ev) (i : Nat) : Ev := l.getD i (0, 0, 0)
/-- Is one of the first i events of this kind, with this message? -/
def befB (l : List Ev) (i : Nat) (k m : Int) : Bool := (l.take i).any fun y => decide (y.1 = k) && decide (y.2.2 = m)
def evO (w : Int) (x : Ev) (b1 b2 : Bool) : Int :=
  if x.1 < 1 ∨ 3 < x.1 then 7 else if x.2.1 < 0 ∨ w ≤ x.2.1 ∨ x.2.2 < 0 ∨ (x.1 = 1 ∧ x.2.2 ≠ 0) then 3 else if x.1 ≠ 1 ∧ b1 = true then 6 else if x.1 = 3 ∧ b2 = false then 5 else 0
def evE (w : Int) (l : List Ev) (i : Nat) : Int := evO w (evA l i) (befB l i (evA l i).1 (evA l i).2.2) (befB l i 2 (evA l i).2.2)
def ckT (w : Int) (l : List Ev) : Nat → Int
  | 0 => 0
  | k + 1 => if ckT w l k ≠ 0 then ckT w l k else evE w l k
/-- What is wrong with events. -/
def evck (w : Int) (l : List Ev) : Int := if w < 1 ∨ 4 < w ∨ 10 < l.length then 2 else ckT w l l.length
theorem ckT_zero {w : Int} {l : List Ev} : ∀ {k}, (∀ j, j < k → evE w l j = 0) → ckT w l k = 0
  | 0, _ => rfl
  | k + 1, h => by rw [ckT, ckT_zero fun j hj => h j (by omega), if_neg (by decide)]; exact h k (by omega)
/-- Right events. -/
structure EvP (w : Nat) (l : List Ev) : Prop where
  w1 : 1 ≤ w
  w4 : w ≤ 4
  len : l.length ≤ 10
  ok : ∀ j, j < l.length → evE w l j = 0
theorem EvP.ck {w : Nat} {l : List Ev} (h : EvP w l) : evck w l = 0 := by
  unfold evck
  have h1 := h.w1
  have h2 := h.w4
  have h3 := h.len
  rw [if_neg (by omega)]
  exact ckT_zero h.ok
theorem EvP.wk {w : Nat} {l : List Ev} (h : EvP w l) {j : Nat} (hj : j < l.length) : 0 ≤ (evA l j).2.1 ∧ (evA l j).2.1 < w ∧ 1 ≤ (evA l j).1 ∧ (evA l j).1 ≤ 3 ∧ 0 ≤ (evA l j).2.2 := by
  have := h.ok j hj
  unfold evE evO at this
  split at this
  · cases this
  split at this
  · cases this
  omega
/-- Is the k-th event right ahead of the i-th one, of those behind it? -/
def ahB (l : List Ev) (k i : Nat) : Bool := decide ((evA l i).2.1 = (evA l k).2.1) || (decide ((evA l i).1 = 3) && decide ((evA l k).1 = 2) && decide ((evA l i).2.2 = (evA l k).2.2))
def ahRow (l : List Ev) (i k : Nat) : List (Nat × Nat) := ((List.range k).filter fun j => ahB l j i).map fun j => (j, i)
def ahTo (l : List Ev) (i : Nat) : List (Nat × Nat) := (List.range i).flatMap fun i => ahRow l i i
end Go.Proofs.Ytdbngpkbamhbeaa
set_option linter.unusedSimpArgs false
set_option linter.unusedVariables false
set_option linter.unusedSectionVars false
set_option maxRecDepth 20000
namespace Go.Proofs.Ytdbngpkbamhbeaa
attribute [local irreducible] QOp aL aC qL
abbrev trD (x : Ev) : List Dat := [.val (.int .i64 x.1), .val (.int .i64 x.2.1), .val (.int .i64 x.2.2)]
end Go.Proofs.Ytdbngpkbamhbeaa
set_option linter.unusedSimpArgs false
set_option linter.unusedVariables false
set_option linter.unusedSectionVars false
set_option maxRecDepth 20000
namespace Go.Proofs.Ytdbngpkbamhbeaa
attribute [local irreducible] QOp aL aC qL
/-- How many of the first k numbers. -/
def cqN (p : Nat → Bool) : Nat → Nat
  | 0 => 0
  | k + 1 => if p k = true then cqN p k + 1 else cqN p k
def sqN (f : Nat → Nat) : Nat → Nat
  | 0 => 0
  | k + 1 => sqN f k + f k
end Go.Proofs.Ytdbngpkbamhbeaa
set_option linter.unusedSimpArgs false
set_option linter.unusedVariables false
set_option linter.unusedSectionVars false
set_option maxRecDepth 20000
namespace Go.Proofs.Ytdbngpkbamhbeaa
attribute [local irreducible] QOp aL aC qL
/-- What is below what, among the first n numbers. -/
structure PoN (n : Nat) (le : Nat → Nat → Bool) : Prop where
  rf : ∀ x, x < n → le x x = true
  tr : ∀ x y z, x < n → y < n → z < n → le x y = true → le y z = true → le x z = true
  an : ∀ x y, x < n → y < n → le x y = true → le y x = true → x = y
theorem cqN_mono {p q : Nat → Bool} : ∀ {k : Nat}, (∀ i, i < k → p i = true → q i = true) → cqN p k ≤ cqN q k
  | 0, _ => Nat.le_refl _
  | k + 1, h => by
    have ih := cqN_mono (p := p) (q := q) (k := k) fun i hi => h i (by omega)
    have h1 := h k (by omega)
    rw [cqN, cqN]
    by_cases hp : p k = true
    · rw [if_pos hp, if_pos (h1 hp)]; omega
    · rw [if_neg hp]; split <;> omega
theorem cqN_lt {p q : Nat → Bool} : ∀ {k x : Nat}, (∀ i, i < k → p i = true → q i = true) → x < k → p x = false → q x = true → cqN p k < cqN q k
  | 0, x, _, hx, _, _ => by omega
  | k + 1, x, h, hx, h1, h2 => by
    have hm := cqN_mono (p := p) (q := q) (k := k) fun i hi => h i (by omega)
    rw [cqN, cqN]
    by_cases e : x = k
    · subst e
      rw [if_neg (by rw [h1]; decide), if_pos h2]; omega
    · have ih := cqN_lt (p := p) (q := q) (k := k) (x := x) (fun i hi => h i (by omega)) (by omega) h1 h2
      by_cases hp : p k = true
      · rw [if_pos hp, if_pos (h k (by omega) hp)]; omega
      · rw [if_neg hp]; split <;> omega
/-- How many are above, itself too. -/
def upC (le : Nat → Nat → Bool) (n x : Nat) : Nat := cqN (le x) n
def itR (F : Nat → Nat) : Nat → Nat → Nat
  | 0, x => x
  | k + 1, x => F (itR F k x)
/-- The map goes from n points to n points, and is monotone. -/
structure MnR (n : Nat) (le : Nat → Nat → Bool) (F : Nat → Nat) : Prop where
  ml : ∀ x, x < n → F x < n
  mm : ∀ x y, x < n → y < n → le x y = true → le (F x) (F y) = true
/-- The least one that stays. -/
structure LsF (n : Nat) (le : Nat → Nat → Bool) (F : Nat → Nat) (x : Nat) : Prop where
  sl : x < n
  sf : F x = x
  sm : ∀ c, c < n → F c = c → le x c = true
theorem LsF.one {n : Nat} {le : Nat → Nat → Bool} {F : Nat → Nat} (hp : PoN n le) {x y : Nat} (h : LsF n le F x) (h' : LsF n le F y) : x = y :=
  hp.an x y h.sl h'.sl (h.sm y h'.sl h'.sf) (h'.sm x h.sl h.sf)
/-- What is below what in a lattice, or turned over. -/
def leT (M : List (List Nat)) (h : Bool) (x y : Nat) : Bool := match h with
  | true => decide (ta M y x = y)
  | false => decide (ta M x y = x)
/-- The map is monotone, in a lattice. -/
def LmP (n : Nat) (M : List (List Nat)) (F : List Nat) : Prop := ∀ x, x < n → ∀ y, y < n → ta M x y = x → ta M (F.getD x 0) (F.getD y 0) = F.getD x 0
instance (n : Nat) (M : List (List Nat)) (F : List Nat) : Decidable (LmP n M F) := by unfold LmP; infer_instance
/-- The end at which one begins. -/
def enT (M J : List (List Nat)) (n : Nat) : Bool → Nat
  | false => endE (ta M) n
  | true => endE (ta J) n
end Go.Proofs.Ytdbngpkbamhbeaa
