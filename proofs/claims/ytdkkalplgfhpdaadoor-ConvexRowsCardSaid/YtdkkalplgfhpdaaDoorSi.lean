import Derived.Test.YtdkkalplgfhpdaaDoorUa
import Derived.Test.YtdkkalplgfhpdaaDoorFb
import Derived.Test.YtdkkalplgfhpdaaDoorFkb
set_option linter.unusedSimpArgs false
set_option linter.unusedVariables false
set_option linter.unusedSectionVars false
set_option maxRecDepth 20000
namespace Go.Proofs.YtdkkalplgfhpdaaDoor
attribute [local irreducible] QOp aL aC qL
def fbd (n : Nat) (x : Int) : Bool := decide (x < 0) || decide (((2 ^ n : Nat) : Int) ≤ x)
def riseB (l : List Int) : Bool := (List.range (l.length - 1)).all fun i => decide (l.getD i 0 < l.getD (i + 1) 0)
def fck (N : Int) (l : List Int) : Int := if N < 0 ∨ 10 < N then 2 else if l.any (fbd N.toNat) = true then 3 else if riseB l = true then 0 else 6
theorem fck_2 {N : Int} (l : List Int) (h : N < 0 ∨ 10 < N) : fck N l = 2 := by unfold fck; rw [if_pos h]
theorem fbd_iff {n : Nat} {x : Int} : fbd n x = true ↔ x < 0 ∨ ((2 ^ n : Nat) : Int) ≤ x := by unfold fbd; rw [Bool.or_eq_true, decide_eq_true_eq, decide_eq_true_eq]
theorem fck_any {n : Nat} (hn : n ≤ 10) {l : List Int} (h : l.any (fbd n) = true) : fck n l = 3 := by
  unfold fck; rw [if_neg (by omega), Int.toNat_natCast, if_pos h]
theorem any_getD {l : List Int} {p : Int → Bool} : l.any p = true ↔ ∃ i, i < l.length ∧ p (l.getD i 0) = true := by
  rw [List.any_eq_true]
  constructor
  · rintro ⟨x, hx, hp⟩
    obtain ⟨i, hi, rfl⟩ := List.getElem_of_mem hx
    exact ⟨i, hi, by rw [List.getD_eq_getElem?_getD, List.getElem?_eq_getElem hi]; exact hp⟩
  · rintro ⟨i, hi, hp⟩
    rw [List.getD_eq_getElem?_getD, List.getElem?_eq_getElem hi] at hp
    exact ⟨_, List.getElem_mem hi, hp⟩
theorem fck_3 {n : Nat} (hn : n ≤ 10) {l : List Int} {i : Nat} (hi : i < l.length) (h : l.getD i 0 < 0 ∨ ((2 ^ n : Nat) : Int) ≤ l.getD i 0) : fck n l = 3 := fck_any hn (any_getD.2 ⟨i, hi, fbd_iff.2 h⟩)
theorem no_any {n : Nat} {l : List Int} (h : ∀ i, i < l.length → 0 ≤ l.getD i 0 ∧ l.getD i 0 < ((2 ^ n : Nat) : Int)) : l.any (fbd n) = false := by
  rw [Bool.eq_false_iff]
  intro hq
  obtain ⟨i, hi, hp⟩ := any_getD.1 hq
  have := h i hi
  rw [fbd_iff] at hp
  omega
theorem fck_6 {n : Nat} (hn : n ≤ 10) {l : List Int} (h : l.any (fbd n) = false) {i : Nat} (hi : i + 1 < l.length) (hle : l.getD (i + 1) 0 ≤ l.getD i 0) : fck n l = 6 := by
  unfold fck
  rw [if_neg (by omega), Int.toNat_natCast, if_neg (by rw [h]; decide), if_neg]
  intro hq
  have := of_decide_eq_true (List.all_eq_true.1 hq i (List.mem_range.2 (by omega)))
  omega
theorem fck_0 {n : Nat} (hn : n ≤ 10) {l : List Int} (h : l.any (fbd n) = false) (hr : ∀ i, i + 1 < l.length → l.getD i 0 < l.getD (i + 1) 0) : fck n l = 0 := by
  unfold fck
  rw [if_neg (by omega), Int.toNat_natCast, if_neg (by rw [h]; decide), if_pos]
  exact List.all_eq_true.2 fun i hi => decide_eq_true (hr i (by have := List.mem_range.1 hi; omega))
theorem fck_zero {N : Int} {l : List Int} (h : fck N l = 0) : ∃ (n : Nat) (S : List Nat), N = n ∧ l = nl S ∧ n ≤ 10 ∧ Fml n S := by
  unfold fck at h
  split at h
  · cases h
  · rename_i h1
    split at h
    · cases h
    · rename_i h2
      split at h
      · rename_i h3
        have hall : ∀ i, i < l.length → 0 ≤ l.getD i 0 ∧ l.getD i 0 < ((2 ^ N.toNat : Nat) : Int) := fun i hi => by
          have : ¬ fbd N.toNat (l.getD i 0) = true := fun hq => h2 (any_getD.2 ⟨i, hi, hq⟩)
          rw [fbd_iff] at this
          omega
        have hg : ∀ i, i < l.length → (l.map Int.toNat).getD i 0 = (l.getD i 0).toNat := fun i hi => by
          rw [List.getD_eq_getElem?_getD, List.getD_eq_getElem?_getD, List.getElem?_map, List.getElem?_eq_getElem hi]; rfl
        refine ⟨N.toNat, l.map Int.toNat, by omega, ?_, by omega, ?_, fun x hx => ?_⟩
        · unfold nl
          rw [List.map_map]
          refine List.ext_getElem? fun i => ?_
          rw [List.getElem?_map]
          by_cases hi : i < l.length
          · have := (hall i hi).1
            rw [List.getD_eq_getElem?_getD, List.getElem?_eq_getElem hi, Option.getD_some] at this
            rw [List.getElem?_eq_getElem hi, Option.map_some]
            show some _ = some ((l[i].toNat : Nat) : Int)
            rw [Int.toNat_of_nonneg this]
          · rw [List.getElem?_eq_none (by omega)]; rfl
        · have hr : ∀ i, i + 1 < l.length → l.getD i 0 < l.getD (i + 1) 0 := fun i hi => of_decide_eq_true (List.all_eq_true.1 h3 i (List.mem_range.2 (by omega)))
          have hr2 : ∀ d i, i + d + 1 < l.length → l.getD i 0 < l.getD (i + d + 1) 0 := fun d => by
            induction d with
            | zero => exact hr
            | succ d ih =>
              intro i hi
              have h4 := ih i (by omega)
              have h5 := hr (i + d + 1) (by omega)
              rw [show i + (d + 1) + 1 = i + d + 1 + 1 by omega]
              omega
          rw [List.pairwise_iff_getElem]
          intro i j hi hj hij
          rw [List.length_map] at hi hj
          have h4 := hr2 (j - i - 1) i (by omega)
          rw [show i + (j - i - 1) + 1 = j by omega] at h4
          have h5 := hg i hi
          have h6 := hg j hj
          rw [List.getD_eq_getElem?_getD, List.getElem?_eq_getElem (by rw [List.length_map]; exact hi), Option.getD_some] at h5
          rw [List.getD_eq_getElem?_getD, List.getElem?_eq_getElem (by rw [List.length_map]; exact hj), Option.getD_some] at h6
          rw [h5, h6]
          have := hall i hi
          omega
        · obtain ⟨y, hy, rfl⟩ := List.mem_map.1 hx
          obtain ⟨i, hi, rfl⟩ := List.getElem_of_mem hy
          have := hall i hi
          rw [List.getD_eq_getElem?_getD, List.getElem?_eq_getElem hi, Option.getD_some] at this
          omega
      · cases h
theorem Fml.get {n : Nat} {S : List Nat} (h : Fml n S) (i : Nat) : S.getD i 0 < 2 ^ n := by
  by_cases hi : i < S.length
  · rw [List.getD_eq_getElem?_getD, List.getElem?_eq_getElem hi]; exact h.lt _ (List.getElem_mem hi)
  · rw [List.getD_eq_getElem?_getD, List.getElem?_eq_none (by omega)]; exact Nat.pow_pos (by decide)
theorem Fml.nd {n : Nat} {S : List Nat} (h : Fml n S) : S.Nodup := List.nodup_iff_pairwise_ne.2 (h.rise.imp fun h => Nat.ne_of_lt h)
theorem Fml.len {n : Nat} {S : List Nat} (h : Fml n S) : S.length ≤ 2 ^ n := by
  have p : S ⊆ List.range (2 ^ n) := fun t ht => List.mem_range.2 (h.lt t ht)
  have := List.Nodup.length_le_of_subset h.nd p
  rwa [List.length_range] at this
theorem Q_pred {P : Program} {st : St} {d : Option Tmp} {ty : TypeId} {pos : String} {af : Array Edge} {g : Option (Nat × Bool)} {T T' : TypeId} {x y : Operand} {k : Nat} (hx : st.ev x = .val (.int .i64 ((k + 1 : Nat) : Int))) (hy : st.ev y = .val (.int .i64 1)) (h : k + 1 ≤ 9223372036854775807) :
    QOp P ⟨d, .binOp .sub T x y T', ty, pos, af, g⟩ st (.val (.int .i64 (k : Int))) := by
  have := Q_sub (P := P) (d := d) (ty := ty) (pos := pos) (af := af) (g := g) (T := T) (T' := T') hx hy (by omega)
  rwa [show ((k + 1 : Nat) : Int) - 1 = (k : Int) by omega] at this
end Go.Proofs.YtdkkalplgfhpdaaDoor
