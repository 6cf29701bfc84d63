import Derived.Test.YtdieojemgkfklaaDoorKq
import Derived.Test.YtdieojemgkfklaaDoorJn
set_option linter.unusedSimpArgs false
set_option linter.unusedVariables false
set_option maxRecDepth 20000
namespace Go.Proofs.YtdieojemgkfklaaDoor
attribute [local irreducible] QOp aL aC qL
theorem grB_iff {u : Nat → Nat → Bool} {L : List Nat} {p : Nat} : grB u L p = true ↔ ∀ q, q ∈ L → q ≠ p → u q p = true := by
  unfold grB
  rw [Bool.not_eq_true', List.any_eq_false]
  constructor
  · intro h q hq hne
    have h1 := h q hq
    cases hu : u q p
    · exact absurd (by rw [hu, decide_eq_true (show p ≠ q from fun e => hne e.symm)]; rfl) h1
    · rfl
  · intro h q hq h1
    rw [Bool.and_eq_true, decide_eq_true_eq, Bool.not_eq_true'] at h1
    rw [h q hq fun e => h1.1 e.symm] at h1
    cases h1.2
theorem ts_mem {n : Nat} (hn : n ≤ 10) {u : Nat → Nat → Bool} {x y p : Nat} : p ∈ mbs (bs (tsP u x y) n) ↔ p < n ∧ tsP u x y p = true := by
  have h1 := bs_lt (tsP u x y) n
  have h2 : 2 ^ n ≤ 1024 := p2_10 hn
  rw [mbs_mem (by omega), bs_bit, Bool.and_eq_true, decide_eq_true_eq]
theorem tb_eq {n : Nat} {u : Nat → Nat → Bool} (h : tbOk n u = true) : tn (tbT n (fun x y => (tsF n u x y).getD n) n) = tgT n u n := by
  rw [tbOk_iff] at h
  unfold tn tbT tgT
  rw [List.map_map]
  refine List.map_congr_left fun x hx => ?_
  have hx := List.mem_range.1 hx
  show nl (rwT _ x n) = nl (tgR n u x n)
  congr 1
  unfold rwT tgR
  refine List.map_congr_left fun y hy => ?_
  have := h x hx y (List.mem_range.1 hy)
  show (tsF n u x y).getD n = (tsF n u x y).getD 0
  cases hf : tsF n u x y with
  | none => rw [hf] at this; cases this
  | some p => rfl
def tblR (b : Bool) (n : Nat) (m w : List (List Int)) : AV := .tup [latA ((bif b then n else 0 : Nat) : Int) (bif b then m else []) (bif b then w else []), .val (.bool b)]
end Go.Proofs.YtdieojemgkfklaaDoor
