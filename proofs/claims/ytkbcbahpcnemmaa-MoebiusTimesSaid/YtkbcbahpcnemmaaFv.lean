/- Contexts: what is wrong with one; marks of things, things of marks: the program's word and the reference's. -/
import Derived.Test.YtkbcbahpcnemmaaFc
import Derived.Test.YtkbcbahpcnemmaaFr
set_option linter.unusedSimpArgs false
set_option linter.unusedVariables false
set_option linter.unusedSectionVars false
set_option maxRecDepth 20000
namespace Go.Proofs.Ytkbcbahpcnemmaa
attribute [local irreducible] QOp aL aC qL
abbrev ctx (T M : Int) (l : List Int) : AV := .agg [.val (.int .i64 T), .val (.int .i64 M), ints l]
def cbad (M : Nat) (x : Int) : Prop := x < 0 ∨ x / 2 ^ M ≠ 0
instance (M : Nat) (x : Int) : Decidable (cbad M x) := inferInstanceAs (Decidable (_ ∨ _))
def cchk (T M : Int) (l : List Int) : Int :=
  if T < 0 ∨ 10 < T ∨ M < 0 ∨ 10 < M then 2 else if (l.length : Int) ≠ T then 1 else if ∃ x ∈ l, cbad M.toNat x then 3 else 0
theorem cchk_3 {t m : Nat} {l : List Int} (ht : t ≤ 10) (hm : m ≤ 10) (hl : l.length = t) {k : Nat} (hk : k < t) (h : cbad m (l.getD k 0)) : cchk t m l = 3 := by
  have hin : l.getD k 0 ∈ l := by rw [getD_of (by omega)]; exact List.getElem_mem _
  unfold cchk
  rw [if_neg (by omega), if_neg (by omega), if_pos ⟨_, hin, by rw [Int.toNat_natCast]; exact h⟩]
theorem cchk_0 {t m : Nat} {l : List Int} (ht : t ≤ 10) (hm : m ≤ 10) (hl : l.length = t) (h : ∀ k, k < t → ¬ cbad m (l.getD k 0)) : cchk t m l = 0 := by
  unfold cchk
  rw [if_neg (by omega), if_neg (by omega), if_neg]
  rintro ⟨x, hx, hb⟩
  obtain ⟨i, hi, rfl⟩ := List.getElem_of_mem hx
  rw [Int.toNat_natCast, ← getD_of hi 0] at hb
  exact h i (by omega) hb
/-- A context of which nothing is wrong. -/
structure Ctx (t m : Nat) (ns : List Nat) : Prop where
  ht : t ≤ 10
  hm : m ≤ 10
  len : ns.length = t
  lt : ∀ x ∈ ns, x < 2 ^ m
theorem Ctx.get {t m : Nat} {ns : List Nat} (h : Ctx t m ns) (k : Nat) : ns.getD k 0 < 2 ^ m := by
  rw [List.getD_eq_getElem?_getD]
  cases hk : ns[k]? with
  | none => exact Nat.pow_pos (by decide)
  | some x => exact h.lt x (List.mem_of_getElem? hk)
theorem pow10 {m : Nat} (h : m ≤ 10) : 2 ^ m ≤ 1024 := Nat.pow_le_pow_right (by decide) h
theorem Ctx.le {t m : Nat} {ns : List Nat} (h : Ctx t m ns) (k : Nat) : ns.getD k 0 < 1024 := Nat.lt_of_lt_of_le (h.get k) (pow10 h.hm)
theorem cchk_zero {T M : Int} {l : List Int} (h : cchk T M l = 0) : ∃ (t m : Nat) (ns : List Nat), T = t ∧ M = m ∧ l = nl ns ∧ Ctx t m ns := by
  by_cases h1 : T < 0 ∨ 10 < T ∨ M < 0 ∨ 10 < M
  · rw [cchk, if_pos h1] at h; cases h
  by_cases h2 : (l.length : Int) ≠ T
  · rw [cchk, if_neg h1, if_pos h2] at h; cases h
  obtain ⟨t, rfl⟩ : ∃ n : Nat, T = n := ⟨T.toNat, by omega⟩
  obtain ⟨m, rfl⟩ : ∃ n : Nat, M = n := ⟨M.toNat, by omega⟩
  by_cases h3 : ∃ x ∈ l, cbad m x
  · rw [cchk, if_neg h1, if_neg h2, if_pos (by simpa using h3)] at h; cases h
  have hb : ∀ x ∈ l, 0 ≤ x ∧ x / 2 ^ m = 0 := fun x hx => by
    have this : ¬ (x < 0 ∨ x / 2 ^ m ≠ 0) := fun hb => h3 ⟨x, hx, hb⟩
    rw [not_or] at this
    exact ⟨by omega, Decidable.not_not.1 this.2⟩
  refine ⟨t, m, l.map Int.toNat, rfl, rfl, nl_of (fun x hx => (hb x hx).1), by omega, by omega, by simp; omega, fun x hx => ?_⟩
  obtain ⟨y, hy, rfl⟩ := List.mem_map.1 hx
  obtain ⟨h4, h5⟩ := hb y hy
  obtain ⟨n, rfl⟩ := Int.eq_ofNat_of_zero_le h4
  have h6 : ((n : Int) / 2 ^ m) = ((n / 2 ^ m : Nat) : Int) := by simp
  rw [h6] at h5
  have hpos : 0 < 2 ^ m := Nat.pow_pos (by decide)
  simp only [Int.toNat_natCast]
  rcases (Nat.div_eq_zero_iff).1 (show n / 2 ^ m = 0 by omega) with h7 | h7
  · omega
  · exact h7
theorem Ctx.chk {t m : Nat} {ns : List Nat} (h : Ctx t m ns) : cchk t m (nl ns) = 0 :=
  cchk_0 h.ht h.hm (by rw [nl_len]; exact h.len) fun k hk => by
    have := h.get k
    rw [nl_get]
    rintro (hb | hb)
    · omega
    · have h6 : (((ns.getD k 0 : Nat) : Int) / 2 ^ m) = ((ns.getD k 0 / 2 ^ m : Nat) : Int) := by simp
      rw [h6, Nat.div_eq_of_lt this] at hb
      exact hb rfl

theorem cbad_iff {m : Nat} {x : Int} (h : 0 ≤ x) : cbad m x ↔ x ≥ ((2 ^ m : Nat) : Int) := by
  obtain ⟨n, rfl⟩ := Int.eq_ofNat_of_zero_le h
  have h6 : ((n : Int) / 2 ^ m) = ((n / 2 ^ m : Nat) : Int) := by simp
  have hpos : 0 < 2 ^ m := Nat.pow_pos (by decide)
  unfold cbad
  rw [h6]
  have : n / 2 ^ m = 0 ↔ n < 2 ^ m := by
    rw [Nat.div_eq_zero_iff]
    omega
  omega
/-! Marks of things. -/
def marksTo (m : Nat) (ns : List Nat) (s : Nat) : Nat → Nat
  | 0 => 2 ^ m - 1
  | k + 1 => if s.testBit k = true then marksTo m ns s k &&& ns.getD k 0 else marksTo m ns s k
def marksN (m : Nat) (ns : List Nat) (s : Nat) : Nat := marksTo m ns s ns.length
def thingsTo (ns : List Nat) (q : Nat) : Nat → Nat
  | 0 => 0
  | k + 1 => if sub q (ns.getD k 0) = true then thingsTo ns q k ||| 2 ^ k else thingsTo ns q k
def thingsN (ns : List Nat) (q : Nat) : Nat := thingsTo ns q ns.length
theorem marksTo_lt (m : Nat) (ns : List Nat) (s : Nat) : ∀ k, marksTo m ns s k < 2 ^ m
  | 0 => by have : 0 < 2 ^ m := Nat.pow_pos (by decide); simp only [marksTo]; omega
  | k + 1 => by
    have ih := marksTo_lt m ns s k
    rw [marksTo]
    split
    · exact Nat.lt_of_le_of_lt Nat.and_le_left ih
    · exact ih
theorem marksTo_bit (m : Nat) (ns : List Nat) (s j : Nat) : ∀ k, (marksTo m ns s k).testBit j = (decide (j < m) && (List.range k).all fun i => !s.testBit i || (ns.getD i 0).testBit j)
  | 0 => by simp [marksTo, Nat.testBit_two_pow_sub_one]
  | k + 1 => by
    have ih := marksTo_bit m ns s j k
    rw [marksTo, List.range_succ, List.all_append]
    split
    · rename_i h
      rw [Nat.testBit_and, ih]
      simp [h, Bool.and_assoc]
    · rename_i h
      rw [ih]
      simp [h]
theorem thingsTo_lt (ns : List Nat) (q : Nat) : ∀ k, thingsTo ns q k < 2 ^ k
  | 0 => by rw [thingsTo]; decide
  | k + 1 => by
    have ih := thingsTo_lt ns q k
    rw [thingsTo]
    have : 2 ^ (k + 1) = 2 ^ k + 2 ^ k := by rw [Nat.pow_succ]; omega
    split
    · exact Nat.or_lt_two_pow (by omega) (by omega)
    · omega
theorem thingsTo_bit (ns : List Nat) (q j : Nat) : ∀ k, (thingsTo ns q k).testBit j = (decide (j < k) && sub q (ns.getD j 0))
  | 0 => by simp [thingsTo]
  | k + 1 => by
    have ih := thingsTo_bit ns q j k
    rw [thingsTo]
    split
    · rename_i h
      rw [Nat.testBit_or, ih, Nat.testBit_two_pow]
      by_cases hjk : j = k
      · subst hjk; rw [h]; simp
      · simp [Ne.symm hjk, show j < k + 1 ↔ j < k by omega]
    · rename_i h
      rw [ih]
      by_cases hjk : j = k
      · subst hjk; rw [Bool.eq_false_iff.2 h]; simp
      · simp [show j < k + 1 ↔ j < k by omega]
theorem bit_le {s k : Nat} (h : s.testBit k = true) : 2 ^ k ≤ s := Nat.ge_two_pow_of_testBit h
end Go.Proofs.Ytkbcbahpcnemmaa
