import Derived.Test.YtkackilhfkicoaaDoorHr
import Derived.Test.YtkackilhfkicoaaDoorFo
import Derived.Test.YtkackilhfkicoaaDoorEngZp
set_option linter.unusedSimpArgs false
set_option linter.unusedVariables false
set_option linter.unusedSectionVars false
set_option maxRecDepth 20000
namespace Go.Proofs.YtkackilhfkicoaaDoor
/-- Sets of n points, rising, of which the first has none of them and the last has all. -/
structure Fam (n : Nat) (S : List Nat) : Prop where
  pos : 0 < S.length
  rise : ∀ i j, i < j → j < S.length → S.getD i 0 < S.getD j 0
  low : S.getD 0 0 = 0
  lt : ∀ i, i < S.length → S.getD i 0 < 2 ^ n
  all : S.getD (S.length - 1) 0 = 2 ^ n - 1
theorem Fam.inj {n : Nat} {S : List Nat} (h : Fam n S) {i j : Nat} (hi : i < S.length) (hj : j < S.length) (e : S.getD i 0 = S.getD j 0) : i = j := by
  rcases Nat.lt_trichotomy i j with q | q | q
  · have := h.rise i j q hj; omega
  · exact q
  · have := h.rise j i q hi; omega
/-- May one stand ahead of the other one? -/
def ftB (S : List Nat) (p : Nat → Nat → Bool) (i j : Nat) : Bool := sub (S.getD i 0) (S.getD j 0) && p (S.getD i 0) (S.getD j 0)
/-- Lists of k + 1 sets, from the first on, that end at the j-th. -/
def wI (S : List Nat) (p : Nat → Nat → Bool) : Nat → Nat → Nat
  | 0, j => if j = 0 then 1 else 0
  | k + 1, j => sumTo (fun i => if ftB S p i j = true then wI S p k i else 0) S.length
/-! How many there are at most. -/
def subN (n s t : Nat) : Bool := (List.range n).all fun i => !s.testBit i || t.testBit i
/-! What the map holds. -/
structure MwK (S : List Nat) (w : Nat → Nat) (m : List (Int × Int)) : Prop where
  at_ : ∀ j, j < S.length → mgd m (S.getD j 0 : Nat) = (w j : Nat)
def cI (S : List Nat) (p : Nat → Nat → Bool) (k i j : Nat) : Nat := if ftB S p i j = true then wI S p k i else 0
/-- Sets below the i-th are done, and of that those below the j-th. -/
def nxI (S : List Nat) (p : Nat → Nat → Bool) (k i j t : Nat) : Nat := sumTo (fun a => cI S p k a t) i + if t < j then cI S p k i t else 0
theorem MwK.yes {n : Nat} {S : List Nat} (h : Fam n S) {p : Nat → Nat → Bool} {k i j : Nat} {m : List (Int × Int)} (hm : MwK S (nxI S p k i j) m) (hj : j < S.length) (hf : ftB S p i j = true) : MwK S (nxI S p k i (j + 1)) (mput m (S.getD j 0 : Nat) ((nxI S p k i j j + wI S p k i : Nat) : Int)) := by
  refine ⟨fun t ht => ?_⟩
  rw [mgd_put]
  by_cases e : t = j
  · subst e
    rw [if_pos rfl]
    unfold nxI
    rw [if_neg (by omega), if_pos (by omega)]
    unfold cI
    rw [if_pos hf]
    omega
  · rw [if_neg (fun q => e (h.inj ht hj (by omega))), hm.at_ t ht]
    unfold nxI
    congr 2
    by_cases q : t < j
    · rw [if_pos q, if_pos (by omega)]
    · rw [if_neg q, if_neg (by omega)]
theorem MwK.no {S : List Nat} {p : Nat → Nat → Bool} {k i j : Nat} {m : List (Int × Int)} (hm : MwK S (nxI S p k i j) m) (hf : ftB S p i j = false) : MwK S (nxI S p k i (j + 1)) m := by
  refine ⟨fun t ht => ?_⟩
  rw [hm.at_ t ht]
  unfold nxI
  congr 2
  by_cases q : t < j
  · rw [if_pos q, if_pos (by omega)]
  · rw [if_neg q]
    by_cases e : t = j
    · subst e
      rw [if_pos (by omega)]
      unfold cI
      rw [if_neg (by rw [hf]; decide)]
    · rw [if_neg (by omega)]
theorem MwK.congr {S : List Nat} {w w' : Nat → Nat} {m : List (Int × Int)} (hm : MwK S w m) (h : ∀ t, t < S.length → w t = w' t) : MwK S w' m := ⟨fun t ht => by rw [hm.at_ t ht, h t ht]⟩
/-! The maps, one by one. -/
def nxM (S : List Nat) (p : Nat → Nat → Bool) (now : List (Int × Int)) (i : Nat) (m : List (Int × Int)) : Nat → List (Int × Int)
  | 0 => m
  | j + 1 => if ftB S p i j = true then mput (nxM S p now i m j) (S.getD j 0 : Nat) (mgd (nxM S p now i m j) (S.getD j 0 : Nat) + mgd now (S.getD i 0 : Nat)) else nxM S p now i m j
def rwM (S : List Nat) (p : Nat → Nat → Bool) (now : List (Int × Int)) : Nat → List (Int × Int)
  | 0 => []
  | i + 1 => if mgd now (S.getD i 0 : Nat) = 0 then rwM S p now i else nxM S p now i (rwM S p now i) S.length
def lsM (S : List Nat) (p : Nat → Nat → Bool) : Nat → List (Int × Int)
  | 0 => [(0, 1)]
  | k + 1 => rwM S p (lsM S p k) S.length
/-! The same with places instead of a map. -/
end Go.Proofs.YtkackilhfkicoaaDoor
