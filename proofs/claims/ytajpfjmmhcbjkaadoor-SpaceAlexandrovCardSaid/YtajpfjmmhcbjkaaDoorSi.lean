import Derived.Test.YtajpfjmmhcbjkaaDoorUa
import Derived.Test.YtajpfjmmhcbjkaaDoorFb
import Derived.Test.YtajpfjmmhcbjkaaDoorFkb
set_option linter.unusedSimpArgs false
set_option linter.unusedVariables false
set_option linter.unusedSectionVars false
set_option maxRecDepth 20000
namespace Go.Proofs.YtajpfjmmhcbjkaaDoor
attribute [local irreducible] QOp aL aC qL
def fbd (n : Nat) (x : Int) : Bool := decide (x < 0) || decide (((2 ^ n : Nat) : Int) ≤ x)
def riseB (l : List Int) : Bool := (List.range (l.length - 1)).all fun i => decide (l.getD i 0 < l.getD (i + 1) 0)
def fck (N : Int) (l : List Int) : Int := if N < 0 ∨ 10 < N then 2 else if l.any (fbd N.toNat) = true then 3 else if riseB l = true then 0 else 6
theorem fbd_iff {n : Nat} {x : Int} : fbd n x = true ↔ x < 0 ∨ ((2 ^ n : Nat) : Int) ≤ x := by unfold fbd; rw [Bool.or_eq_true, decide_eq_true_eq, decide_eq_true_eq]
theorem any_getD {l : List Int} {p : Int → Bool} : l.any p = true ↔ ∃ i, i < l.length ∧ p (l.getD i 0) = true := by
  rw [List.any_eq_true]
  constructor
  · rintro ⟨x, hx, hp⟩
    obtain ⟨i, hi, rfl⟩ := List.getElem_of_mem hx
    exact ⟨i, hi, by rw [List.getD_eq_getElem?_getD, List.getElem?_eq_getElem hi]; exact hp⟩
  · rintro ⟨i, hi, hp⟩
    rw [List.getD_eq_getElem?_getD, List.getElem?_eq_getElem hi] at hp
    exact ⟨_, List.getElem_mem hi, hp⟩
theorem no_any {n : Nat} {l : List Int} (h : ∀ i, i < l.length → 0 ≤ l.getD i 0 ∧ l.getD i 0 < ((2 ^ n : Nat) : Int)) : l.any (fbd n) = false := by
  rw [Bool.eq_false_iff]
  intro hq
  obtain ⟨i, hi, hp⟩ := any_getD.1 hq
  have := h i hi
  rw [fbd_iff] at hp
  omega
theorem Fml.get {n : Nat} {S : List Nat} (h : Fml n S) (i : Nat) : S.getD i 0 < 2 ^ n := by
  by_cases hi : i < S.length
  · rw [List.getD_eq_getElem?_getD, List.getElem?_eq_getElem hi]; exact h.lt _ (List.getElem_mem hi)
  · rw [List.getD_eq_getElem?_getD, List.getElem?_eq_none (by omega)]; exact Nat.pow_pos (by decide)
theorem Fml.nd {n : Nat} {S : List Nat} (h : Fml n S) : S.Nodup := List.nodup_iff_pairwise_ne.2 (h.rise.imp fun h => Nat.ne_of_lt h)
theorem Fml.len {n : Nat} {S : List Nat} (h : Fml n S) : S.length ≤ 2 ^ n := by
  have p : S ⊆ List.range (2 ^ n) := fun t ht => List.mem_range.2 (h.lt t ht)
  have := List.Nodup.length_le_of_subset h.nd p
  rwa [List.length_range] at this
theorem Q_pred {P : Program} {st : St} {d : Option Tmp} {ty : TypeId} {pos : String} {af : Array Edge} {g : Option (Nat × Bool)} {T T' : TypeId} {x y : Operand} {k : Nat} (hx : st.ev x = .val (.int .i64 ((k + 1 : Nat) : Int))) (hy : st.ev y = .val (.int .i64 1)) (h : k + 1 ≤ 9223372036854775807) :
    QOp P ⟨d, .binOp .sub T x y T', ty, pos, af, g⟩ st (.val (.int .i64 (k : Int))) := by
  have := Q_sub (P := P) (d := d) (ty := ty) (pos := pos) (af := af) (g := g) (T := T) (T' := T') hx hy (by omega)
  rwa [show ((k + 1 : Nat) : Int) - 1 = (k : Int) by omega] at this
end Go.Proofs.YtajpfjmmhcbjkaaDoor
