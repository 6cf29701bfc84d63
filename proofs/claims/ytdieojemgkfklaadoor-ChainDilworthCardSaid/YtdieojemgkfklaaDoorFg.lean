/- The order that pairs of points come to, errors too: the program's own. -/
import Derived.Test.YtdieojemgkfklaaDoorFf
set_option linter.unusedSimpArgs false
set_option linter.unusedVariables false
set_option maxRecDepth 20000
namespace Go.Proofs.YtdieojemgkfklaaDoor
attribute [local irreducible] QOp aL aC qL
def okP (N : Int) (p : Int × Int) : Bool := decide (0 ≤ p.1 ∧ p.1 < N ∧ 0 ≤ p.2 ∧ p.2 < N)
def toN (l : List (Int × Int)) : List (Nat × Nat) := l.map fun p => (p.1.toNat, p.2.toNat)
/-- What the program answers: the error's number. -/
def mkE (N : Int) (l : List (Int × Int)) : Int := if N < 0 ∨ 10 < N then 2 else if l.all (okP N) = false then 3 else if irr N.toNat (clos N.toNat (toN l)) = true then 0 else 4
def mkA (N e : Int) : AV := bif decide (e = 0) then .tup [.agg [.val (.int .i64 N), .own 0], .val (.int .i64 0)] else .tup [.agg [.val (.int .i64 0), .val (.slice none 0 0)], .val (.int .i64 e)]
def mkO (t : TypeId) (N : Int) (l : List (Int × Int)) (e : Int) : List AO := bif decide (e = 0) then [.row t 1 (intc (nl (clos N.toNat (toN l))))] else []

theorem okP_bad {N : Int} {l : List (Int × Int)} {k : Nat} (hk : k < l.length) (h : okP N (l.getD k (0, 0)) = false) : l.all (okP N) = false := by
  rw [List.all_eq_false]
  refine ⟨l[k], List.getElem_mem hk, ?_⟩
  rw [List.getD_eq_getElem?_getD, List.getElem?_eq_getElem hk] at h
  simpa using h
theorem okP_good {N : Int} {l : List (Int × Int)} (h : ∀ k, k < l.length → okP N (l.getD k (0, 0)) = true) : l.all (okP N) = true := by
  rw [List.all_eq_true]
  intro p hp
  obtain ⟨k, hk, rfl⟩ := List.getElem_of_mem hp
  have := h k hk
  rw [List.getD_eq_getElem?_getD, List.getElem?_eq_getElem hk] at this
  exact this
theorem okP_pn {N : Int} {l : List (Int × Int)} (h : l.all (okP N) = true) : l = pn (toN l) :=
  pn_of fun p hp => by
    have := List.all_eq_true.1 h p hp
    simp only [okP, decide_eq_true_eq] at this
    omega
theorem okP_lt {n : Nat} {l : List (Int × Int)} (h : l.all (okP n) = true) : ∀ p ∈ toN l, p.1 < n ∧ p.2 < n := by
  intro p hp
  obtain ⟨q, hq, rfl⟩ := List.mem_map.1 hp
  have := List.all_eq_true.1 h q hq
  simp only [okP, decide_eq_true_eq] at this
  simp only []
  omega

end Go.Proofs.YtdieojemgkfklaaDoor
