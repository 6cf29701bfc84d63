import Derived.Test.YtdieojemgkfklaaDoorQi
set_option linter.unusedSimpArgs false
set_option linter.unusedVariables false
set_option maxRecDepth 20000
namespace Go.Proofs.YtdieojemgkfklaaDoor
attribute [local irreducible] QOp aL aC qL
/-- The most points of those of the first k sets of which something holds. -/
def mxT (q : Nat → Bool) : Nat → Nat
  | 0 => 0
  | s + 1 => if q s = true then max (mxT q s) (pcTo s 10) else mxT q s
theorem mxT_ge {q : Nat → Bool} {s : Nat} (h : q s = true) : ∀ k, s < k → pcTo s 10 ≤ mxT q k
  | k + 1, hk => by
    rw [mxT]
    by_cases e : s = k
    · subst e; rw [if_pos h]; exact Nat.le_max_right _ _
    · have := mxT_ge h k (by omega)
      split <;> omega
theorem mxT_at (q : Nat → Bool) : ∀ k, mxT q k = 0 ∨ ∃ s, s < k ∧ q s = true ∧ mxT q k = pcTo s 10
  | 0 => .inl rfl
  | k + 1 => by
    rw [mxT]
    split
    · rename_i h
      rcases Nat.le_total (mxT q k) (pcTo k 10) with h1 | h1
      · rw [Nat.max_eq_right h1]; exact .inr ⟨k, by omega, h, rfl⟩
      · rw [Nat.max_eq_left h1]
        rcases mxT_at q k with h2 | ⟨s, h2, h3, h4⟩
        · exact .inl h2
        · exact .inr ⟨s, by omega, h3, h4⟩
    · rcases mxT_at q k with h2 | ⟨s, h2, h3, h4⟩
      · exact .inl h2
      · exact .inr ⟨s, by omega, h3, h4⟩
theorem pc_le10 (s : Nat) : pcTo s 10 ≤ 10 := pcTo_le s 10
theorem mxT_le (q : Nat → Bool) (k : Nat) : mxT q k ≤ 10 := by
  rcases mxT_at q k with h | ⟨s, _, _, h⟩
  · omega
  · rw [h]; exact pc_le10 s
theorem pc_mono {t s : Nat} (h : sub t s = true) : pcTo t 10 ≤ pcTo s 10 := by
  rw [pc_cn, pc_cn]
  exact cn_mono 10 fun i _ hi => sub_iff.1 h i hi
theorem sub_le {t s : Nat} (h : sub t s = true) : t ≤ s := by
  have : t &&& s = t := Nat.eq_of_testBit_eq fun i => by
    rw [Nat.testBit_and]
    cases ht : t.testBit i
    · rfl
    · rw [sub_iff.1 h i ht]; rfl
  rw [← this]; exact Nat.and_le_right
theorem nd_add {s p : Nat} (h : s.testBit p = true) : ndiff s (2 ^ p) + 2 ^ p = s := by
  have h0 : (ndiff s (2 ^ p)).testBit p = false := by rw [nd_bit, Nat.testBit_two_pow, decide_eq_true rfl, Bool.not_true, Bool.and_false]
  rw [add_bitQ h0]
  refine Nat.eq_of_testBit_eq fun i => ?_
  rw [Nat.testBit_or, nd_bit, Nat.testBit_two_pow]
  by_cases e : p = i
  · subst e; rw [h, decide_eq_true rfl]; rfl
  · rw [decide_eq_false e, Bool.not_false, Bool.and_true, Bool.or_false]
theorem nd_sub {s p : Nat} (h : s.testBit p = true) : ndiff s (2 ^ p) = s - 2 ^ p := by have := nd_add h; omega
theorem pc_nd {s p : Nat} (h : s.testBit p = true) (hp : p < 10) : pcTo (ndiff s (2 ^ p)) 10 + 1 = pcTo s 10 := by
  have h0 : (ndiff s (2 ^ p)).testBit p = false := by rw [nd_bit, Nat.testBit_two_pow, decide_eq_true rfl, Bool.not_true, Bool.and_false]
  rw [← add_pc h0 hp, nd_add h]
/-- Something that each part of a set has, and each point alone. -/
structure Her (P : Nat → Bool) : Prop where
  sub : ∀ t s, s < 1024 → P s = true → sub t s = true → P t = true
  one : ∀ x, x < 10 → P (2 ^ x) = true
theorem cn_her (ns : List Nat) (c : Bool) : Her (cnB ns c) := by
  refine ⟨fun t s hs h hts => ?_, fun x hx => ?_⟩
  · have := sub_le hts
    exact (cn_iff (by omega)).2 fun x y hx hy hxy => (cn_iff hs).1 h x y (sub_iff.1 hts x hx) (sub_iff.1 hts y hy) hxy
  · have : 2 ^ x < 2 ^ 10 := Nat.pow_lt_pow_right (by decide) hx
    refine (cn_iff this).2 fun a b ha hb hab => ?_
    rw [Nat.testBit_two_pow, decide_eq_true_eq] at ha hb
    omega
def bd (P : Nat → Bool) (s : Nat) : Nat := mxT (fun t => sub t s && P t) (s + 1)
theorem bd_ge {P : Nat → Bool} {s t : Nat} (h : sub t s = true) (hP : P t = true) : pcTo t 10 ≤ bd P s :=
  mxT_ge (q := fun t => sub t s && P t) (by rw [h, hP]; rfl) _ (Nat.lt_succ_of_le (sub_le h))
theorem bd_at (P : Nat → Bool) (s : Nat) : bd P s = 0 ∨ ∃ t, sub t s = true ∧ P t = true ∧ bd P s = pcTo t 10 := by
  rcases mxT_at (fun t => sub t s && P t) (s + 1) with h | ⟨t, _, h2, h3⟩
  · exact .inl h
  · rw [Bool.and_eq_true] at h2; exact .inr ⟨t, h2.1, h2.2, h3⟩
theorem bd_pc (P : Nat → Bool) (s : Nat) : bd P s ≤ pcTo s 10 := by
  rcases bd_at P s with h | ⟨t, h1, _, h3⟩
  · omega
  · rw [h3]; exact pc_mono h1
theorem bd_le10 (P : Nat → Bool) (s : Nat) : bd P s ≤ 10 := Nat.le_trans (bd_pc P s) (pc_le10 s)
theorem bd_P {P : Nat → Bool} {s : Nat} (h : P s = true) : bd P s = pcTo s 10 := Nat.le_antisymm (bd_pc P s) (bd_ge (sub_iff.2 fun _ h => h) h)
theorem bd_mono {P : Nat → Bool} {s s' : Nat} (h : sub s s' = true) : bd P s ≤ bd P s' := by
  rcases bd_at P s with h0 | ⟨t, h1, h2, h3⟩
  · omega
  · rw [h3]; exact bd_ge (sub_iff.2 fun i hi => sub_iff.1 h i (sub_iff.1 h1 i hi)) h2
theorem nd_in (s x : Nat) : sub (ndiff s x) s = true := sub_iff.2 fun i hi => by rw [nd_bit, Bool.and_eq_true] at hi; exact hi.1
theorem bd_less {P : Nat → Bool} {s p : Nat} : bd P (ndiff s (2 ^ p)) ≤ bd P s := bd_mono (nd_in s _)
theorem bd_ex {P : Nat → Bool} {s : Nat} (h : P s = false) : bd P s = 0 ∨ ∃ p, s.testBit p = true ∧ bd P s ≤ bd P (ndiff s (2 ^ p)) := by
  rcases bd_at P s with h0 | ⟨t, h1, h2, h3⟩
  · exact .inl h0
  · right
    have hne : t ≠ s := fun e => by rw [e, h] at h2; cases h2
    have : ∃ p, s.testBit p = true ∧ t.testBit p = false := by
      refine Classical.byContradiction fun hn => hne (Nat.eq_of_testBit_eq fun i => ?_)
      cases ht : t.testBit i
      · cases hs : s.testBit i
        · rfl
        · exact absurd ⟨i, hs, ht⟩ hn
      · exact (sub_iff.1 h1 i ht).symm
    obtain ⟨p, hp, hq⟩ := this
    refine ⟨p, hp, ?_⟩
    rw [h3]
    refine bd_ge (sub_iff.2 fun i hi => ?_) h2
    rw [nd_bit, sub_iff.1 h1 i hi, Nat.testBit_two_pow, Bool.true_and, Bool.not_eq_true', decide_eq_false_iff_not]
    intro e
    subst e
    rw [hi] at hq; cases hq
theorem bd_add {P : Nat → Bool} (hP : Her P) {n s x : Nat} (hn : n ≤ 10) (hs : s < 2 ^ n) (hx : x < n) (h : s.testBit x = false) : bd P (s + 2 ^ x) ≤ bd P s + 1 := by
  have h10 : s + 2 ^ x < 1024 := Nat.lt_of_lt_of_le (add_lt h hs hx) (Nat.pow_le_pow_right (by decide) hn)
  rcases bd_at P (s + 2 ^ x) with h0 | ⟨t, h1, h2, h3⟩
  · omega
  · rw [h3]
    have ht10 : t < 1024 := Nat.lt_of_le_of_lt (sub_le h1) h10
    have hsub : sub (ndiff t (2 ^ x)) s = true := sub_iff.2 fun i hi => by
      rw [nd_bit, Bool.and_eq_true, Bool.not_eq_true', Nat.testBit_two_pow, decide_eq_false_iff_not] at hi
      rcases (add_tb h).1 (sub_iff.1 h1 i hi.1) with h4 | h4
      · exact h4
      · exact absurd h4.symm hi.2
    have hge := bd_ge hsub (hP.sub _ t ht10 h2 (nd_in t _))
    cases hq : t.testBit x
    · have : ndiff t (2 ^ x) = t := Nat.eq_of_testBit_eq fun i => by
        rw [nd_bit, Nat.testBit_two_pow]
        by_cases e : x = i
        · subst e; rw [hq]; rfl
        · rw [decide_eq_false e, Bool.not_false, Bool.and_true]
      rw [this] at hge; omega
    · have := pc_nd hq (by omega)
      omega
section
variable {P : Nat → Bool} {n : Nat}
/-- The most points of a set of which none has more than k; of which some has just k. -/
def GmQ (P : Nat → Bool) (n k : Nat) : Nat := mxT (fun s => decide (bd P s ≤ k)) (2 ^ n)
def gmQ (P : Nat → Bool) (n k : Nat) : Nat := mxT (fun s => decide (bd P s = k)) (2 ^ n)
def wd (P : Nat → Bool) (n : Nat) : Nat := bd P (2 ^ n - 1)
theorem full_bit {x : Nat} : (2 ^ n - 1).testBit x = true ↔ x < n := by rw [Nat.testBit_two_pow_sub_one, decide_eq_true_eq]
theorem sub_full {s : Nat} (hs : s < 2 ^ n) : sub s (2 ^ n - 1) = true := sub_iff.2 fun i hi => full_bit.2 (bit_inQ hs hi)
theorem full_lt : 2 ^ n - 1 < 2 ^ n := Nat.sub_lt (Nat.pow_pos (by decide)) (by decide)
theorem pc_n {s : Nat} (hn : n ≤ 10) (hs : s < 2 ^ n) : pcTo s 10 ≤ n := by rw [pcTo_10 hs hn]; exact pcTo_le s n
theorem GmQ_at (k : Nat) (hP : Her P) : ∃ s, s < 2 ^ n ∧ bd P s ≤ k ∧ GmQ P n k = pcTo s 10 := by
  rcases mxT_at (fun s => decide (bd P s ≤ k)) (2 ^ n) with h | ⟨s, h1, h2, h3⟩
  · refine ⟨0, Nat.pow_pos (by decide), ?_, h.trans (by decide)⟩
    have := bd_pc P 0
    have h0 : pcTo 0 10 = 0 := by decide
    omega
  · exact ⟨s, h1, of_decide_eq_true h2, h3⟩
theorem GmQ_ge {k s : Nat} (hs : s < 2 ^ n) (h : bd P s ≤ k) : pcTo s 10 ≤ GmQ P n k := mxT_ge (q := fun s => decide (bd P s ≤ k)) (decide_eq_true h) _ hs
theorem not_full {k s : Nat} (hs : s < 2 ^ n) (h : bd P s ≤ k) (hk : k < wd P n) : ∃ x, x < n ∧ s.testBit x = false := by
  refine Classical.byContradiction fun hn => ?_
  have : bd P (2 ^ n - 1) ≤ bd P s := bd_mono (sub_iff.2 fun i hi => by
    cases hq : s.testBit i
    · exact absurd ⟨i, full_bit.1 hi, hq⟩ hn
    · rfl)
  unfold wd at hk
  omega
theorem GmQ_up (hP : Her P) (hn : n ≤ 10) {k : Nat} (hk : k < wd P n) : GmQ P n k + 1 ≤ GmQ P n (k + 1) := by
  obtain ⟨s, h1, h2, h3⟩ := GmQ_at (n := n) k hP
  obtain ⟨x, hx, hq⟩ := not_full h1 h2 hk
  have := GmQ_ge (P := P) (k := k + 1) (add_lt hq h1 hx) (Nat.le_trans (bd_add hP hn h1 hx hq) (by omega))
  rw [add_pc hq (show x < 10 by omega)] at this
  omega
theorem gmQ_GmQ (hP : Her P) (hn : n ≤ 10) {k : Nat} (hk : k < wd P n) : gmQ P n (k + 1) = GmQ P n (k + 1) := by
  refine Nat.le_antisymm ?_ ?_
  · rcases mxT_at (fun s => decide (bd P s = k + 1)) (2 ^ n) with h | ⟨s, h1, h2, h3⟩
    · exact Nat.le_trans (Nat.le_of_eq h) (Nat.zero_le _)
    · exact Nat.le_trans (Nat.le_of_eq h3) (GmQ_ge h1 (Nat.le_of_eq (of_decide_eq_true h2)))
  · obtain ⟨s, h1, h2, h3⟩ := GmQ_at (n := n) (k + 1) hP
    have hup := GmQ_up hP hn hk
    by_cases e : bd P s = k + 1
    · rw [h3]; exact mxT_ge (q := fun s => decide (bd P s = k + 1)) (decide_eq_true e) _ h1
    · have := GmQ_ge (P := P) (k := k) h1 (by omega)
      omega
theorem GmQ_le (hn : n ≤ 10) (k : Nat) : GmQ P n k ≤ n := by
  rcases mxT_at (fun s => decide (bd P s ≤ k)) (2 ^ n) with h | ⟨s, h1, _, h3⟩
  · exact Nat.le_trans (Nat.le_of_eq h) (Nat.zero_le _)
  · exact Nat.le_trans (Nat.le_of_eq h3) (pc_n hn h1)
theorem GmQ_end (hn : n ≤ 10) {k : Nat} (hk : wd P n ≤ k) : GmQ P n k = n := by
  refine Nat.le_antisymm (GmQ_le hn k) ?_
  have := GmQ_ge (P := P) (k := k) (full_lt (n := n)) hk
  rwa [pcTo_10 full_lt hn, pc_full fun x hx => full_bit.2 hx] at this
theorem GmQ_lt (hP : Her P) (hn : n ≤ 10) {k : Nat} (hk : k < wd P n) : GmQ P n k < n := by
  have := GmQ_up hP hn hk
  have := GmQ_le (P := P) hn (k + 1)
  omega
theorem GmQ_zero (hP : Her P) (hn : n ≤ 10) : GmQ P n 0 = 0 := by
  obtain ⟨s, h1, h2, h3⟩ := GmQ_at (n := n) 0 hP
  rw [h3]
  have : s = 0 := Nat.eq_of_testBit_eq fun i => by
    rw [Nat.zero_testBit]
    cases hq : s.testBit i
    · rfl
    · have hi := bit_inQ h1 hq
      have hge := bd_ge (P := P) (s := s) (t := 2 ^ i) (sub_iff.2 fun j hj => by rw [Nat.testBit_two_pow, decide_eq_true_eq] at hj; subst hj; exact hq) (hP.one i (by omega))
      have h0 := add_pc (s := 0) (p := i) (n := 10) (Nat.zero_testBit i) (by omega)
      rw [Nat.zero_add] at h0
      omega
  rw [this]; decide
theorem gm_none {k : Nat} (hk : wd P n < k) : gmQ P n k = 0 := by
  rcases mxT_at (fun s => decide (bd P s = k)) (2 ^ n) with h | ⟨s, h1, h2, _⟩
  · exact h
  · have h3 := of_decide_eq_true h2
    have := bd_mono (P := P) (sub_full h1)
    unfold wd at hk
    omega
theorem wd_le (hn : n ≤ 10) : wd P n ≤ n := Nat.le_trans (bd_pc P _) (pc_n hn full_lt)
end
/-- By how many points more k of them have than one fewer. -/
def shT (P : Nat → Bool) (n k : Nat) : List Nat := (List.range k).map fun i => GmQ P n (i + 1) - GmQ P n i
theorem shT_succ (P : Nat → Bool) (n k : Nat) : shT P n (k + 1) = shT P n k ++ [GmQ P n (k + 1) - GmQ P n k] := by unfold shT; rw [List.range_succ, List.map_append]; rfl
theorem shT_len (P : Nat → Bool) (n k : Nat) : (shT P n k).length = k := by simp [shT]
end Go.Proofs.YtdieojemgkfklaaDoor
