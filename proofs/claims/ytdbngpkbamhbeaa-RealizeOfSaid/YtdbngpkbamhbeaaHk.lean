import Derived.Test.YtdbngpkbamhbeaaGu
import Derived.Test.YtdbngpkbamhbeaaIp
import Derived.Test.YtdbngpkbamhbeaaEngZo
import Derived.Test.YtdbngpkbamhbeaaEngZf
set_option linter.unusedSimpArgs false
set_option linter.unusedVariables false
set_option linter.unusedSectionVars false
set_option maxRecDepth 20000
namespace Go.Proofs.Ytdbngpkbamhbeaa
attribute [local irreducible] QOp aL aC qL
theorem Q_bitI {P : Program} {st : St} {d : Option Tmp} {ty : TypeId} {pos : String} {af : Array Edge} {g : Option (Nat × Bool)} {T T' : TypeId} {x y : Operand} {i : Int} {k : Nat} (hx : st.ev x = .val (.int .i64 1)) (hy : st.ev y = .val (.int .i64 i)) (he : i = (k : Int)) (h : k < 62) :
    QOp P ⟨d, .binOp .shl T x y T', ty, pos, af, g⟩ st (.val (.int .i64 ((2 ^ k : Nat) : Int))) := by subst he; exact Q_bit hx hy h
theorem Q_shrI {P : Program} {st : St} {d : Option Tmp} {ty : TypeId} {pos : String} {af : Array Edge} {g : Option (Nat × Bool)} {T T' : TypeId} {x y : Operand} {m : Nat} {i : Int} {k : Nat} (hx : st.ev x = .val (.int .i64 (m : Int))) (hy : st.ev y = .val (.int .i64 i)) (he : i = (k : Int)) (h : k < 64) :
    QOp P ⟨d, .binOp .shr T x y T', ty, pos, af, g⟩ st (.val (.int .i64 ((m / 2 ^ k : Nat) : Int))) := by subst he; exact Q_shrN hx hy h
/-- The set of the first of a list. -/
def rsN (l : List Nat) : Nat → Nat
  | 0 => 0
  | k + 1 => rsN l k ||| 2 ^ l.getD k 0
def okAt (n : Nat) (ns : List Nat) (l : List Int) (j : Nat) : Bool := (decide (0 ≤ l.getD j 0) && decide (l.getD j 0 < (n : Int))) && mayO ns (rsN (l.map Int.toNat) j) (l.getD j 0).toNat
def isRow (n : Nat) (ns : List Nat) (l : List Int) : Bool := (List.range l.length).all (okAt n ns l) && decide (l.length = n)
theorem isRow_bad {n : Nat} {ns : List Nat} {l : List Int} {j : Nat} (hj : j < l.length) (h : okAt n ns l j = false) : isRow n ns l = false := by
  unfold isRow
  rw [Bool.and_eq_false_iff]
  exact .inl (List.all_eq_false.2 ⟨j, List.mem_range.2 hj, by rw [h]; decide⟩)
theorem isRow_all {n : Nat} {ns : List Nat} {l : List Int} (h : ∀ j, j < l.length → okAt n ns l j = true) : isRow n ns l = decide (l.length = n) := by
  unfold isRow
  rw [List.all_eq_true.2 fun j hj => h j (List.mem_range.1 hj), Bool.true_and]
theorem map_getI (l : List Int) (q : Nat) : (l.map Int.toNat).getD q 0 = (l.getD q 0).toNat := by
  simp only [List.getD_eq_getElem?_getD, List.getElem?_map]
  cases l[q]? <;> rfl
theorem isRow_iff {n : Nat} {ns : List Nat} {l : List Int} (h : isRow n ns l = true) : l.length = n ∧ ∀ j, j < n → (0 ≤ l.getD j 0 ∧ l.getD j 0 < (n : Int)) ∧ mayO ns (rsN (l.map Int.toNat) j) (l.getD j 0).toNat = true := by
  unfold isRow at h
  rw [Bool.and_eq_true, decide_eq_true_eq, List.all_eq_true] at h
  refine ⟨h.2, fun j hj => ?_⟩
  have := h.1 j (List.mem_range.2 (by omega))
  unfold okAt at this
  rw [Bool.and_eq_true, Bool.and_eq_true, decide_eq_true_eq, decide_eq_true_eq] at this
  exact this
/-- A row told in numbers that are not negative. -/
structure RowN (n : Nat) (ns : List Nat) (l : List Nat) : Prop where
  len : l.length = n
  lt : ∀ j, j < n → l.getD j 0 < n
  may : ∀ j, j < n → mayO ns (rsN l j) (l.getD j 0) = true
theorem isRow_nat {n : Nat} {ns : List Nat} {l : List Int} (h : isRow n ns l = true) : ∃ r : List Nat, l = nl r ∧ RowN n ns r := by
  obtain ⟨h1, h2⟩ := isRow_iff h
  refine ⟨l.map Int.toNat, ?_, by simpa using h1, fun j hj => ?_, fun j hj => ?_⟩
  · unfold nl
    rw [List.map_map]
    apply List.ext_getElem
    · simp
    · intro i hi hi2
      have := (h2 i (by omega)).1
      rw [List.getD_eq_getElem?_getD, List.getElem?_eq_getElem hi] at this
      simp at this ⊢
      omega
  · rw [map_getI]; have := (h2 j hj).1; omega
  · rw [map_getI]; exact (h2 j hj).2
theorem rs_lt {n : Nat} {ns l : List Nat} (h : RowN n ns l) : ∀ j, j ≤ n → rsN l j < 2 ^ n
  | 0, _ => Nat.pow_pos (by decide)
  | j + 1, hj => Nat.or_lt_two_pow (rs_lt h j (by omega)) (Nat.pow_lt_pow_right (by decide) (h.lt j (by omega)))
end Go.Proofs.Ytdbngpkbamhbeaa
set_option linter.unusedSimpArgs false
set_option linter.unusedVariables false
set_option linter.unusedSectionVars false
set_option maxRecDepth 20000
namespace Go.Proofs.Ytdbngpkbamhbeaa
attribute [local irreducible] QOp aL aC qL
attribute [local irreducible] FOp POp hL xH
/-- May two neighbours change their places? -/
def swB (ns l : List Nat) (k : Nat) : Bool := !lt ns (l.getD k 0) (l.getD (k + 1) 0) && !lt ns (l.getD (k + 1) 0) (l.getD k 0)
def swN (ns l : List Nat) (k : Nat) : List Nat := if swB ns l k = true then (l.set k (l.getD (k + 1) 0)).set (k + 1) (l.getD k 0) else l
theorem swN_len (ns l : List Nat) (k : Nat) : (swN ns l k).length = l.length := by
  unfold swN; split <;> simp
/-- All of a row are points. -/
def Pts (n : Nat) (l : List Nat) : Prop := l.length = n ∧ ∀ j, j < n → l.getD j 0 < n
theorem Pts.sw {n k : Nat} {ns l : List Nat} (h : Pts n l) (hk : k + 1 < n) : Pts n (swN ns l k) := by
  refine ⟨by rw [swN_len]; exact h.1, fun j hj => ?_⟩
  unfold swN
  split
  · have h1 := h.2 k (by omega)
    have h2 := h.2 (k + 1) hk
    have h3 := h.2 j hj
    have hl := h.1
    simp only [List.getD_eq_getElem?_getD] at *
    by_cases e1 : k + 1 = j
    · subst e1
      rw [List.getElem?_set_self (by rw [List.length_set]; omega)]; exact h1
    · rw [List.getElem?_set_ne e1]
      by_cases e2 : k = j
      · subst e2
        rw [List.getElem?_set_self (by omega)]; exact h2
      · rw [List.getElem?_set_ne e2]; exact h3
  · exact h.2 j hj
def upN (ns l : List Nat) : Nat → List Nat
  | 0 => l
  | k + 1 => swN ns (upN ns l k) k
theorem Pts.up {n : Nat} {ns l : List Nat} (h : Pts n l) : ∀ k, k + 1 ≤ n → Pts n (upN ns l k)
  | 0, _ => h
  | k + 1, hk => (Pts.up h k (by omega)).sw (by omega)
end Go.Proofs.Ytdbngpkbamhbeaa
set_option linter.unusedSimpArgs false
set_option linter.unusedVariables false
set_option linter.unusedSectionVars false
set_option maxRecDepth 20000
namespace Go.Proofs.Ytdbngpkbamhbeaa
attribute [local irreducible] QOp aL aC qL
attribute [local irreducible] FOp POp hL xH zL
/-- What the reference swaps: those of which the first is not below the second. -/
def swR (ns l : List Nat) (k : Nat) : List Nat := if lt ns (l.getD k 0) (l.getD (k + 1) 0) = true then l else (l.set k (l.getD (k + 1) 0)).set (k + 1) (l.getD k 0)
theorem swR_len (ns l : List Nat) (k : Nat) : (swR ns l k).length = l.length := by
  unfold swR; split <;> simp
theorem Pts.swR {n k : Nat} {ns l : List Nat} (h : Pts n l) (hk : k + 1 < n) : Pts n (swR ns l k) := by
  refine ⟨by rw [swR_len]; exact h.1, fun j hj => ?_⟩
  unfold Go.Proofs.Ytdbngpkbamhbeaa.swR
  split
  · exact h.2 j hj
  · have h1 := h.2 k (by omega)
    have h2 := h.2 (k + 1) hk
    have h3 := h.2 j hj
    have hl := h.1
    simp only [List.getD_eq_getElem?_getD] at *
    by_cases e1 : k + 1 = j
    · subst e1
      rw [List.getElem?_set_self (by rw [List.length_set]; omega)]; exact h1
    · rw [List.getElem?_set_ne e1]
      by_cases e2 : k = j
      · subst e2
        rw [List.getElem?_set_self (by omega)]; exact h2
      · rw [List.getElem?_set_ne e2]; exact h3
def upR (ns l : List Nat) : Nat → List Nat
  | 0 => l
  | k + 1 => swR ns (upR ns l k) k
theorem Pts.upR {n : Nat} {ns l : List Nat} (h : Pts n l) : ∀ k, k + 1 ≤ n → Pts n (upR ns l k)
  | 0, _ => h
  | k + 1, hk => (Pts.upR h k (by omega)).swR (by omega)
end Go.Proofs.Ytdbngpkbamhbeaa
