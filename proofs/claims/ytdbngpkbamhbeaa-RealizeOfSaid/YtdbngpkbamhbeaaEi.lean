import Derived.Test.YtdbngpkbamhbeaaEh
import Derived.Test.YtdbngpkbamhbeaaGb
set_option linter.unusedSimpArgs false
set_option linter.unusedVariables false
set_option linter.unusedSectionVars false
set_option maxRecDepth 20000
namespace Go.Proofs.Ytdbngpkbamhbeaa
attribute [local irreducible] QOp aL aC qL
/-- Is a point ahead of another one in all rows? -/
def ordR (R : List (List Nat)) (a b : Nat) : Bool := R.all fun r => decide (r.idxOf a < r.idxOf b)
def natR (rows : List (List Int)) : List (List Nat) := rows.map fun r => r.map Int.toNat
theorem natR_get (rows : List (List Int)) (i : Nat) : (natR rows).getD i [] = (rows.getD i []).map Int.toNat := by
  unfold natR
  rw [List.getD_eq_getElem?_getD, List.getD_eq_getElem?_getD, List.getElem?_map]
  cases rows[i]? <;> rfl
theorem natR_row {n : Nat} {l : List Int} (h : pmB n l = true) : l = nl (l.map Int.toNat) ∧ (l.map Int.toNat).Perm (List.range n) := by
  obtain ⟨r, rfl, hp⟩ := pm_iff.1 h
  rw [nl_map]
  exact ⟨rfl, hp⟩
theorem rs_ahead {n : Nat} {r : List Nat} (hp : r.Perm (List.range n)) {j : Nat} (hj : j ≤ n) : rsN r j = bs (fun a => decide (r.idxOf a < j)) n := by
  have hlen : r.length = n := by rw [hp.length_eq, List.length_range]
  have hR : RowN n (noO n) r := (rowI (noO_vld n)).2 ⟨hlen, fun p h => hp.mem_iff.2 (List.mem_range.2 h), fun a b _ h => by rw [noO_lt] at h; cases h⟩
  refine bs_eq (rs_lt hR j hj) fun x hx => ?_
  have hm : x ∈ r := hp.mem_iff.2 (List.mem_range.2 hx)
  rw [Bool.eq_iff_iff, rs_bit, decide_eq_true_eq]
  constructor
  · rintro ⟨i, hi, e⟩
    have hil : i < r.length := by omega
    have hnd : r.Nodup := hp.nodup_iff.2 List.nodup_range
    rw [List.getD_eq_getElem?_getD, List.getElem?_eq_getElem hil] at e
    rw [← e]
    show r.idxOf r[i] < j
    rw [nd_idx hnd hil]; exact hi
  · intro h
    exact ⟨_, h, idxOf_get hm⟩
/-- The sets Below, with i rows done, and of the next one j points. -/
def bwS (n : Nat) (R : List (List Nat)) (i j : Nat) : List Nat := (List.range n).map fun p => if (R.getD i []).idxOf p < j then bs (fun a => ordR (R.take (i + 1)) a p) n else if i = 0 then 0 else bs (fun a => ordR (R.take i) a p) n
theorem bwS_len (n : Nat) (R : List (List Nat)) (i j : Nat) : (bwS n R i j).length = n := by simp [bwS]
theorem bwS_get {n : Nat} {R : List (List Nat)} {i j p : Nat} (h : p < n) : (bwS n R i j).getD p 0 = if (R.getD i []).idxOf p < j then bs (fun a => ordR (R.take (i + 1)) a p) n else if i = 0 then 0 else bs (fun a => ordR (R.take i) a p) n := by
  unfold bwS
  rw [List.getD_eq_getElem?_getD, List.getElem?_map, List.getElem?_range h]; rfl
theorem bwS_lt {n : Nat} {R : List (List Nat)} {i j p : Nat} : (bwS n R i j).getD p 0 < 2 ^ n := by
  have h0 : 0 < 2 ^ n := Nat.pow_pos (by decide)
  by_cases h : p < n
  · rw [bwS_get h]
    split
    · exact bs_lt _ _
    · split
      · exact h0
      · exact bs_lt _ _
  · rw [List.getD_eq_getElem?_getD, List.getElem?_eq_none (by rw [bwS_len]; omega)]; exact h0
theorem bwS_zero (n : Nat) (R : List (List Nat)) : bwS n R 0 0 = List.replicate n 0 := by
  apply List.ext_getElem?
  intro q
  unfold bwS
  rw [List.getElem?_map, List.getElem?_replicate]
  by_cases h : q < n
  · rw [List.getElem?_range h, if_pos h]; simp
  · rw [List.getElem?_eq_none (by rw [List.length_range]; omega), if_neg h]; rfl
theorem bwS_row {n : Nat} {R : List (List Nat)} {i : Nat} (hp : (R.getD i []).Perm (List.range n)) : bwS n R i n = bwS n R (i + 1) 0 := by
  unfold bwS
  refine List.map_congr_left fun p hpn => ?_
  have hm := hp.mem_iff.2 hpn
  have hl := List.idxOf_lt_length_iff.2 hm
  rw [hp.length_eq, List.length_range] at hl
  rw [if_pos hl, if_neg (by omega), if_neg (by omega)]
theorem bwS_all {n : Nat} {R : List (List Nat)} (h : 0 < R.length) : bwS n R R.length 0 = ofn n (ordR R) := by
  unfold bwS ofn ofTo
  refine List.map_congr_left fun p _ => ?_
  rw [if_neg (by omega), if_neg (by omega), List.take_length]
theorem take_getD {α : Type} {R : List α} {i : Nat} (h : i < R.length) (z : α) : R.take (i + 1) = R.take i ++ [R.getD i z] := by
  rw [List.take_succ_eq_append_getElem h, List.getD_eq_getElem?_getD, List.getElem?_eq_getElem h]; rfl
theorem ordR_app (A : List (List Nat)) (r : List Nat) (a b : Nat) : ordR (A ++ [r]) a b = (ordR A a b && decide (r.idxOf a < r.idxOf b)) := by
  unfold ordR; rw [List.all_append]; simp
theorem getD_memR {l : List Nat} {j : Nat} (h : j < l.length) : l.getD j 0 ∈ l := by
  rw [List.getD_eq_getElem?_getD, List.getElem?_eq_getElem h]; exact List.getElem_mem h
/-- One point more: what stands there, and is ahead in this row. -/
theorem bwS_next {n : Nat} {R : List (List Nat)} {i j : Nat} (hi : i < R.length) (hp : (R.getD i []).Perm (List.range n)) (hj : j < n) (v : Nat) (hv : v = if i = 0 then rsN (R.getD i []) j else (bwS n R i j).getD ((R.getD i []).getD j 0) 0 &&& rsN (R.getD i []) j) :
    (bwS n R i j).set ((R.getD i []).getD j 0) v = bwS n R i (j + 1) := by
  have hlen : (R.getD i []).length = n := by rw [hp.length_eq, List.length_range]
  have hnd : (R.getD i []).Nodup := hp.nodup_iff.2 List.nodup_range
  have htk := take_getD hi ([] : List Nat)
  have hra := rs_ahead hp (Nat.le_of_lt hj)
  have hpj : (R.getD i []).getD j 0 ∈ R.getD i [] := getD_memR (by omega)
  have hix : (R.getD i []).idxOf ((R.getD i []).getD j 0) = j := by
    have hjl : j < (R.getD i []).length := by omega
    rw [List.getD_eq_getElem?_getD, List.getElem?_eq_getElem hjl]
    exact nd_idx hnd hjl
  have hpn : (R.getD i []).getD j 0 < n := List.mem_range.1 (hp.mem_iff.1 hpj)
  have hun : ∀ q, q < n → (R.getD i []).idxOf q = j → q = (R.getD i []).getD j 0 := fun q hq e => by
    rw [← e, idxOf_get (hp.mem_iff.2 (List.mem_range.2 hq))]
  rw [bwS_get hpn, hix, if_neg (Nat.lt_irrefl j), hra] at hv
  generalize (R.getD i []).getD j 0 = p at *
  generalize hr : R.getD i [] = r at *
  have hval : v = bs (fun a => ordR (R.take (i + 1)) a p) n := by
    rw [hv, htk]
    by_cases h0 : i = 0
    · subst h0
      rw [if_pos rfl]
      refine bs_congr fun a ha => ?_
      rw [ordR_app, hix]; rfl
    · rw [if_neg h0, if_neg h0]
      refine bs_eq (Nat.and_lt_two_pow _ (bs_lt _ _)) fun a ha => ?_
      rw [Nat.testBit_and, bs_bit, bs_bit, ordR_app, hix]; simp [ha]
  apply List.ext_getElem?
  intro q
  rw [List.getElem?_set]
  by_cases hqp : p = q
  · subst hqp
    rw [if_pos rfl, if_pos (by rw [bwS_len]; exact hpn)]
    have hg := bwS_get (R := R) (i := i) (j := j + 1) hpn
    rw [hr, hix, if_pos (by omega), ← hval] at hg
    have hl : p < (bwS n R i (j + 1)).length := by rw [bwS_len]; exact hpn
    rw [List.getD_eq_getElem?_getD, List.getElem?_eq_getElem hl] at hg
    rw [List.getElem?_eq_getElem hl]
    exact congrArg some hg.symm
  · rw [if_neg hqp]
    unfold bwS
    rw [List.getElem?_map, List.getElem?_map]
    by_cases hq : q < n
    · rw [List.getElem?_range hq]
      simp only [Option.map_some, Option.some.injEq]
      rw [hr]
      have : r.idxOf q ≠ j := fun e => hqp (hun q hq e).symm
      by_cases h : r.idxOf q < j
      · rw [if_pos h, if_pos (show r.idxOf q < j + 1 by omega)]
      · rw [if_neg h, if_neg (show ¬ r.idxOf q < j + 1 by omega)]
    · rw [List.getElem?_eq_none (by rw [List.length_range]; omega)]; rfl
end Go.Proofs.Ytdbngpkbamhbeaa
