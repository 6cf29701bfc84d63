import Derived.Test.YtgojkabjgagjcaaDoorFc
import Derived.Test.YtgojkabjgagjcaaDoorFq
import Derived.Test.YtgojkabjgagjcaaDoorFm
set_option linter.unusedSimpArgs false
set_option linter.unusedVariables false
set_option linter.unusedSectionVars false
set_option maxRecDepth 20000
namespace Go.Proofs.YtgojkabjgagjcaaDoor
attribute [local irreducible] QOp aL aC qL
abbrev ctx (T M : Int) (l : List Int) : AV := .agg [.val (.int .i64 T), .val (.int .i64 M), ints l]
def cbad (M : Nat) (x : Int) : Prop := x < 0 ∨ x / 2 ^ M ≠ 0
instance (M : Nat) (x : Int) : Decidable (cbad M x) := inferInstanceAs (Decidable (_ ∨ _))
def cchk (T M : Int) (l : List Int) : Int :=
  if T < 0 ∨ 10 < T ∨ M < 0 ∨ 10 < M then 2 else if (l.length : Int) ≠ T then 1 else if ∃ x ∈ l, cbad M.toNat x then 3 else 0
theorem cchk_0 {t m : Nat} {l : List Int} (ht : t ≤ 10) (hm : m ≤ 10) (hl : l.length = t) (h : ∀ k, k < t → ¬ cbad m (l.getD k 0)) : cchk t m l = 0 := by
  unfold cchk
  rw [if_neg (by omega), if_neg (by omega), if_neg]
  rintro ⟨x, hx, hb⟩
  obtain ⟨i, hi, rfl⟩ := List.getElem_of_mem hx
  rw [Int.toNat_natCast, ← getD_of hi 0] at hb
  exact h i (by omega) hb
/-- A context of which nothing is wrong. -/
structure Ctx (t m : Nat) (ns : List Nat) : Prop where
  ht : t ≤ 10
  hm : m ≤ 10
  len : ns.length = t
  lt : ∀ x ∈ ns, x < 2 ^ m
theorem Ctx.get {t m : Nat} {ns : List Nat} (h : Ctx t m ns) (k : Nat) : ns.getD k 0 < 2 ^ m := by
  rw [List.getD_eq_getElem?_getD]
  cases hk : ns[k]? with
  | none => exact Nat.pow_pos (by decide)
  | some x => exact h.lt x (List.mem_of_getElem? hk)
theorem pow10 {m : Nat} (h : m ≤ 10) : 2 ^ m ≤ 1024 := Nat.pow_le_pow_right (by decide) h
theorem Ctx.le {t m : Nat} {ns : List Nat} (h : Ctx t m ns) (k : Nat) : ns.getD k 0 < 1024 := Nat.lt_of_lt_of_le (h.get k) (pow10 h.hm)
theorem Ctx.chk {t m : Nat} {ns : List Nat} (h : Ctx t m ns) : cchk t m (nl ns) = 0 :=
  cchk_0 h.ht h.hm (by rw [nl_len]; exact h.len) fun k hk => by
    have := h.get k
    rw [nl_get]
    rintro (hb | hb)
    · omega
    · have h6 : (((ns.getD k 0 : Nat) : Int) / 2 ^ m) = ((ns.getD k 0 / 2 ^ m : Nat) : Int) := by simp
      rw [h6, Nat.div_eq_of_lt this] at hb
      exact hb rfl

/-! Marks of things. -/
def marksTo (m : Nat) (ns : List Nat) (s : Nat) : Nat → Nat
  | 0 => 2 ^ m - 1
  | k + 1 => if s.testBit k = true then marksTo m ns s k &&& ns.getD k 0 else marksTo m ns s k
def marksN (m : Nat) (ns : List Nat) (s : Nat) : Nat := marksTo m ns s ns.length
def thingsTo (ns : List Nat) (q : Nat) : Nat → Nat
  | 0 => 0
  | k + 1 => if sub q (ns.getD k 0) = true then thingsTo ns q k ||| 2 ^ k else thingsTo ns q k
def thingsN (ns : List Nat) (q : Nat) : Nat := thingsTo ns q ns.length
end Go.Proofs.YtgojkabjgagjcaaDoor
set_option linter.unusedSimpArgs false
set_option linter.unusedVariables false
set_option linter.unusedSectionVars false
set_option maxRecDepth 20000
namespace Go.Proofs.YtgojkabjgagjcaaDoor
attribute [local irreducible] QOp aL aC qL
/-- Do all of some things, of the first i, have a mark. -/
def allTo (ns : List Nat) (s j i : Nat) : Bool := (List.range i).all fun i => !s.testBit i || (ns.getD i 0).testBit j
/-! Concepts: sets of things that are those of their marks. -/
def conTo (m : Nat) (ns : List Nat) : Nat → List (Nat × Nat)
  | 0 => []
  | s + 1 => if thingsN ns (marksN m ns s) = s then conTo m ns s ++ [(s, marksN m ns s)] else conTo m ns s
def conN (t m : Nat) (ns : List Nat) : List (Nat × Nat) := conTo m ns (2 ^ t)
end Go.Proofs.YtgojkabjgagjcaaDoor
