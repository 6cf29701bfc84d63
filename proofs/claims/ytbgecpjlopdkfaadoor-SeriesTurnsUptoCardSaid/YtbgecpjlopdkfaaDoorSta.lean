import Derived.Test.YtbgecpjlopdkfaaDoorKa
import Derived.Test.YtbgecpjlopdkfaaDoorGr
set_option linter.unusedSimpArgs false
set_option linter.unusedVariables false
set_option linter.unusedSectionVars false
set_option maxRecDepth 20000
namespace Go.Proofs.YtbgecpjlopdkfaaDoor
attribute [local irreducible] QOp aL aC qL
def pcE : Nat → Nat → Nat
  | 0, _ => 0
  | n + 1, S => pcE n S + if S.testBit n = true then 1 else 0
theorem pcE_congr {S T : Nat} : ∀ {n : Nat}, (∀ i, i < n → S.testBit i = T.testBit i) → pcE n S = pcE n T
  | 0, _ => rfl
  | n + 1, h => by unfold pcE; rw [pcE_congr (n := n) fun i hi => h i (by omega), h n (by omega)]
theorem pcE_zero {S : Nat} : ∀ {n : Nat}, pcE n S = 0 → ∀ i, i < n → S.testBit i = false
  | n + 1, h, i, hi => by
    unfold pcE at h
    cases hn : S.testBit n
    · by_cases e : i = n
      · rw [e]; exact hn
      · exact pcE_zero (n := n) (by omega) i (by omega)
    · rw [hn, if_pos rfl] at h; omega
theorem pcE_pos {S : Nat} : ∀ {n : Nat}, pcE n S ≠ 0 → ∃ i, i < n ∧ S.testBit i = true
  | 0, h => absurd rfl h
  | n + 1, h => by
    unfold pcE at h
    cases hn : S.testBit n
    · rw [hn, if_neg (by decide)] at h
      obtain ⟨i, hi, e⟩ := pcE_pos (n := n) (by omega)
      exact ⟨i, by omega, e⟩
    · exact ⟨n, by omega, hn⟩
theorem rm_bit {S i j : Nat} : (ndiff S (2 ^ i)).testBit j = (S.testBit j && !decide (i = j)) := by
  rw [testBit_ndiff, Nat.testBit_two_pow]
theorem pcE_rm {S i : Nat} (hi : S.testBit i = true) : ∀ {n : Nat}, i < n → pcE n (ndiff S (2 ^ i)) + 1 = pcE n S
  | n + 1, h => by
    unfold pcE
    by_cases e : i = n
    · subst e
      rw [pcE_congr (S := ndiff S (2 ^ i)) (T := S) fun j hj => by rw [rm_bit, decide_eq_false (by omega), Bool.not_false, Bool.and_true], rm_bit, hi]
      simp
    · rw [rm_bit, decide_eq_false e, Bool.not_false, Bool.and_true]
      have := pcE_rm (S := S) hi (n := n) (by omega)
      omega
theorem pcE_or {A B : Nat} : ∀ {n : Nat}, (∀ i, i < n → A.testBit i = true → B.testBit i = true → False) → pcE n (A ||| B) = pcE n A + pcE n B
  | 0, _ => rfl
  | n + 1, h => by
    unfold pcE
    rw [pcE_or (n := n) fun i hi => h i (by omega), Nat.testBit_or]
    have := h n (by omega)
    cases hA : A.testBit n <;> cases hB : B.testBit n
    · simp
    · simp; omega
    · simp; omega
    · exact (this hA hB).elim
def mnB (n : Nat) (R : Nat → Nat → Bool) (S i : Nat) : Bool := S.testBit i && (List.range n).all fun y => !(S.testBit y && R y i)
theorem mnB_iff {n : Nat} {R : Nat → Nat → Bool} {S i : Nat} : mnB n R S i = true ↔ S.testBit i = true ∧ ∀ y, y < n → S.testBit y = true → R y i = false := by
  unfold mnB
  rw [Bool.and_eq_true, List.all_eq_true]
  refine and_congr Iff.rfl ⟨fun h y hy hs => ?_, fun h y hy => ?_⟩
  · have := h y (List.mem_range.2 hy)
    rw [hs] at this
    simpa using this
  · cases hs : S.testBit y
    · rfl
    · rw [h y (List.mem_range.1 hy) hs]; rfl
def eX (n : Nat) (R : Nat → Nat → Bool) : Nat → Nat → Nat
  | 0, _ => 1
  | f + 1, S => sumTo (fun i => if mnB n R S i = true then eX n R f (ndiff S (2 ^ i)) else 0) n
def eS (n : Nat) (R : Nat → Nat → Bool) (S : Nat) : Nat := eX n R (pcE n S) S
theorem eX_congr {n : Nat} {R R' : Nat → Nat → Bool} : ∀ (f : Nat) {S T : Nat}, (∀ i, i < n → S.testBit i = T.testBit i) → (∀ a b, a < n → b < n → S.testBit a = true → S.testBit b = true → R a b = R' a b) → eX n R f S = eX n R' f T
  | 0, _, _, _, _ => rfl
  | f + 1, S, T, h1, h2 => by
    refine sumTo_congr fun i hi => ?_
    have e : mnB n R S i = mnB n R' T i := by
      rw [Bool.eq_iff_iff, mnB_iff, mnB_iff, h1 i hi]
      refine ⟨fun ⟨a, b⟩ => ⟨a, fun y hy hs => ?_⟩, fun ⟨a, b⟩ => ⟨a, fun y hy hs => ?_⟩⟩
      · rw [← h2 y i hy hi (by rw [h1 y hy]; exact hs) (by rw [h1 i hi]; exact a)]; exact b y hy (by rw [h1 y hy]; exact hs)
      · rw [h2 y i hy hi hs (by rw [h1 i hi]; exact a)]; exact b y hy (by rw [← h1 y hy]; exact hs)
    rw [e, eX_congr (R := R) (R' := R') f (S := ndiff S (2 ^ i)) (T := ndiff T (2 ^ i)) (fun j hj => by rw [rm_bit, rm_bit, h1 j hj]) (fun a b ha hb sa sb => by
      rw [rm_bit, Bool.and_eq_true] at sa sb
      exact h2 a b ha hb sa.1 sb.1)]
theorem eS_congr {n : Nat} {R R' : Nat → Nat → Bool} {S T : Nat} (h1 : ∀ i, i < n → S.testBit i = T.testBit i) (h2 : ∀ a b, a < n → b < n → S.testBit a = true → S.testBit b = true → R a b = R' a b) : eS n R S = eS n R' T := by
  unfold eS
  rw [pcE_congr h1]
  exact eX_congr _ h1 h2
theorem eS_nil {n : Nat} {R : Nat → Nat → Bool} {S : Nat} (h : pcE n S = 0) : eS n R S = 1 := by unfold eS; rw [h]; rfl
theorem eS_step {n : Nat} {R : Nat → Nat → Bool} {S : Nat} (h : pcE n S ≠ 0) : eS n R S = sumTo (fun i => if mnB n R S i = true then eS n R (ndiff S (2 ^ i)) else 0) n := by
  unfold eS
  obtain ⟨f, hf⟩ : ∃ f, pcE n S = f + 1 := ⟨pcE n S - 1, by omega⟩
  rw [hf]
  refine sumTo_congr fun i hi => ?_
  by_cases hm : mnB n R S i = true
  · have := pcE_rm (mnB_iff.1 hm).1 hi
    rw [if_pos hm, if_pos hm, show pcE n (ndiff S (2 ^ i)) = f by omega]
  · rw [if_neg hm, if_neg hm]
theorem eX_le {n : Nat} (hn : n ≤ 10) (R : Nat → Nat → Bool) : ∀ f S, eX n R f S ≤ 10 ^ f
  | 0, _ => by simp [eX]
  | f + 1, S => by
    have : ∀ p, (if mnB n R S p = true then eX n R f (ndiff S (2 ^ p)) else 0) ≤ 10 ^ f := fun p => by
      split
      · exact eX_le hn R f _
      · exact Nat.zero_le _
    have h2 := sumTo_le this n
    have h3 : n * 10 ^ f ≤ 10 * 10 ^ f := Nat.mul_le_mul_right _ hn
    rw [Nat.pow_succ]
    show sumTo _ n ≤ _
    omega
theorem pcE_le : ∀ (n S : Nat), pcE n S ≤ n
  | 0, _ => Nat.le_refl _
  | n + 1, S => by have := pcE_le n S; unfold pcE; split <;> omega
theorem eS_le {n : Nat} (hn : n ≤ 10) (R : Nat → Nat → Bool) (S : Nat) : eS n R S ≤ 10000000000 :=
  Nat.le_trans (eX_le hn R _ _) (Nat.le_trans (Nat.pow_le_pow_right (by decide) (Nat.le_trans (pcE_le n S) hn)) (by decide))
theorem rm_orA {n A B i : Nat} (hd : ∀ i, i < n → A.testBit i = true → B.testBit i = true → False) (hi : i < n) (hA : A.testBit i = true) (j : Nat) : (ndiff (A ||| B) (2 ^ i)).testBit j = (ndiff A (2 ^ i) ||| B).testBit j := by
  rw [rm_bit, Nat.testBit_or, Nat.testBit_or, rm_bit]
  by_cases e : i = j
  · subst e
    have hB : B.testBit i = false := by
      cases h : B.testBit i
      · rfl
      · exact (hd i hi hA h).elim
    rw [hB]; simp
  · rw [decide_eq_false e]; simp
/-- All of one below all of the other. -/
theorem eS_over {n : Nat} {R : Nat → Nat → Bool} {B : Nat} : ∀ (k : Nat) (A : Nat), pcE n A = k → (∀ i, i < n → A.testBit i = true → B.testBit i = true → False) → (∀ a b, a < n → b < n → A.testBit a = true → B.testBit b = true → R a b = true ∧ R b a = false) → eS n R (A ||| B) = eS n R A * eS n R B
  | 0, A, hk, hd, hab => by
    rw [eS_nil hk, Nat.one_mul]
    refine eS_congr (fun i hi => ?_) fun _ _ _ _ _ _ => rfl
    rw [Nat.testBit_or, pcE_zero hk i hi, Bool.false_or]
  | k + 1, A, hk, hd, hab => by
    have h0 : pcE n (A ||| B) ≠ 0 := by rw [pcE_or hd]; omega
    obtain ⟨a, ha, hA⟩ := pcE_pos (n := n) (S := A) (by omega)
    rw [eS_step h0, eS_step (S := A) (by omega), Nat.mul_comm, ← sumTo_mul]
    refine sumTo_congr fun i hi => ?_
    have e : mnB n R (A ||| B) i = mnB n R A i := by
      rw [Bool.eq_iff_iff, mnB_iff, mnB_iff, Nat.testBit_or, Bool.or_eq_true]
      constructor
      · rintro ⟨h1, h2⟩
        have hAi : A.testBit i = true := by
          rcases h1 with h1 | h1
          · exact h1
          · have := h2 a ha (by rw [Nat.testBit_or, hA]; rfl)
            rw [(hab a i ha hi hA h1).1] at this; cases this
        exact ⟨hAi, fun y hy hs => h2 y hy (by rw [Nat.testBit_or, hs]; rfl)⟩
      · rintro ⟨h1, h2⟩
        refine ⟨.inl h1, fun y hy hs => ?_⟩
        rw [Nat.testBit_or, Bool.or_eq_true] at hs
        rcases hs with hs | hs
        · exact h2 y hy hs
        · exact (hab i y hi hy h1 hs).2
    rw [e]
    by_cases hm : mnB n R A i = true
    · have hAi := (mnB_iff.1 hm).1
      have hr := pcE_rm hAi hi
      rw [if_pos hm, if_pos hm, eS_congr (R := R) (R' := R) (S := ndiff (A ||| B) (2 ^ i)) (T := ndiff A (2 ^ i) ||| B) (fun j _ => rm_orA hd hi hAi j) (fun _ _ _ _ _ _ => rfl)]
      rw [eS_over k (ndiff A (2 ^ i)) (by omega) (fun j hj h1 h2 => by rw [rm_bit, Bool.and_eq_true] at h1; exact hd j hj h1.1 h2) (fun a b ha hb h1 h2 => by rw [rm_bit, Bool.and_eq_true] at h1; exact hab a b ha hb h1.1 h2), Nat.mul_comm]
    · rw [if_neg hm, if_neg hm, Nat.mul_zero]
/-- Side by side. -/
theorem eS_side {n : Nat} {R : Nat → Nat → Bool} : ∀ (m : Nat) (A B : Nat), pcE n A + pcE n B = m → (∀ i, i < n → A.testBit i = true → B.testBit i = true → False) → (∀ a b, a < n → b < n → A.testBit a = true → B.testBit b = true → R a b = false ∧ R b a = false) → eS n R (A ||| B) = ch (pcE n A) (pcE n B) * (eS n R A * eS n R B) := by
  intro m
  induction m using Nat.strongRecOn with
  | ind m ih =>
    intro A B hm hd hab
    rcases hkA : pcE n A with _ | a
    · rw [eS_nil hkA, Nat.one_mul, ch_nil, Nat.one_mul]
      refine eS_congr (fun i hi => ?_) fun _ _ _ _ _ _ => rfl
      rw [Nat.testBit_or, pcE_zero hkA i hi, Bool.false_or]
    rcases hkB : pcE n B with _ | b
    · rw [eS_nil hkB, Nat.mul_one, ch_zero, Nat.one_mul]
      refine eS_congr (fun i hi => ?_) fun _ _ _ _ _ _ => rfl
      rw [Nat.testBit_or, pcE_zero hkB i hi, Bool.or_false]
    have h0 : pcE n (A ||| B) ≠ 0 := by rw [pcE_or hd]; omega
    have e : ∀ i, i < n → (if mnB n R (A ||| B) i = true then eS n R (ndiff (A ||| B) (2 ^ i)) else 0) =
        ch a (b + 1) * eS n R B * (if mnB n R A i = true then eS n R (ndiff A (2 ^ i)) else 0) + ch (a + 1) b * eS n R A * (if mnB n R B i = true then eS n R (ndiff B (2 ^ i)) else 0) := by
      intro i hi
      have em : mnB n R (A ||| B) i = (mnB n R A i || mnB n R B i) := by
        rw [Bool.eq_iff_iff, Bool.or_eq_true, mnB_iff, mnB_iff, mnB_iff, Nat.testBit_or, Bool.or_eq_true]
        constructor
        · rintro ⟨h1 | h1, h2⟩
          · exact .inl ⟨h1, fun y hy hs => h2 y hy (by rw [Nat.testBit_or, hs]; rfl)⟩
          · exact .inr ⟨h1, fun y hy hs => h2 y hy (by rw [Nat.testBit_or, hs, Bool.or_true])⟩
        · rintro (⟨h1, h2⟩ | ⟨h1, h2⟩)
          · refine ⟨.inl h1, fun y hy hs => ?_⟩
            rw [Nat.testBit_or, Bool.or_eq_true] at hs
            rcases hs with hs | hs
            · exact h2 y hy hs
            · exact (hab i y hi hy h1 hs).2
          · refine ⟨.inr h1, fun y hy hs => ?_⟩
            rw [Nat.testBit_or, Bool.or_eq_true] at hs
            rcases hs with hs | hs
            · exact (hab y i hy hi hs h1).1
            · exact h2 y hy hs
      rw [em]
      by_cases hA : mnB n R A i = true
      · have hAi := (mnB_iff.1 hA).1
        have hBi : ¬ mnB n R B i = true := fun h => hd i hi hAi (mnB_iff.1 h).1
        have hr := pcE_rm hAi hi
        rw [hA, Bool.true_or, if_pos rfl, if_pos rfl, if_neg hBi, Nat.mul_zero, Nat.add_zero]
        rw [eS_congr (R := R) (R' := R) (S := ndiff (A ||| B) (2 ^ i)) (T := ndiff A (2 ^ i) ||| B) (fun j _ => rm_orA hd hi hAi j) (fun _ _ _ _ _ _ => rfl)]
        rw [ih (pcE n (ndiff A (2 ^ i)) + pcE n B) (by omega) (ndiff A (2 ^ i)) B rfl (fun j hj h1 h2 => by rw [rm_bit, Bool.and_eq_true] at h1; exact hd j hj h1.1 h2) (fun a b ha hb h1 h2 => by rw [rm_bit, Bool.and_eq_true] at h1; exact hab a b ha hb h1.1 h2)]
        rw [show pcE n (ndiff A (2 ^ i)) = a by omega, hkB, Nat.mul_comm (eS n R (ndiff A (2 ^ i))), Nat.mul_assoc]
      · by_cases hB : mnB n R B i = true
        · have hBi := (mnB_iff.1 hB).1
          have hr := pcE_rm hBi hi
          rw [if_neg hA, hB, Bool.or_true, if_pos rfl, if_pos rfl, Nat.mul_zero, Nat.zero_add]
          have hd' : ∀ i, i < n → B.testBit i = true → A.testBit i = true → False := fun i hi h1 h2 => hd i hi h2 h1
          rw [eS_congr (R := R) (R' := R) (S := ndiff (A ||| B) (2 ^ i)) (T := A ||| ndiff B (2 ^ i)) (fun j _ => by rw [Nat.or_comm A B, rm_orA hd' hi hBi j, Nat.or_comm]) (fun _ _ _ _ _ _ => rfl)]
          rw [ih (pcE n A + pcE n (ndiff B (2 ^ i))) (by omega) A (ndiff B (2 ^ i)) rfl (fun j hj h1 h2 => by rw [rm_bit, Bool.and_eq_true] at h2; exact hd j hj h1 h2.1) (fun a b ha hb h1 h2 => by rw [rm_bit, Bool.and_eq_true] at h2; exact hab a b ha hb h1 h2.1)]
          rw [show pcE n (ndiff B (2 ^ i)) = b by omega, hkA, Nat.mul_assoc]
        · rw [if_neg hA, if_neg hB, if_neg (by
            rw [Bool.or_eq_true]
            rintro (h | h)
            · exact hA h
            · exact hB h), Nat.mul_zero, Nat.mul_zero]
    rw [eS_step h0, sumTo_congr e, sumTo_add, sumTo_mul, sumTo_mul, ← eS_step (S := A) (by omega), ← eS_step (S := B) (by omega), ch_succ]
    rw [Nat.add_mul, Nat.mul_assoc, Nat.mul_assoc, Nat.mul_comm (eS n R B) (eS n R A), Nat.add_comm]
/-- Counted by who is there already. -/
theorem cnt_eX {n : Nat} {ns : List Nat} (hv : Vld n ns) : ∀ (f s S : Nat), (∀ i, i < n → S.testBit i = !s.testBit i) → cnt n (mayO ns) f s = eX n (lt ns) f S
  | 0, _, _, _ => rfl
  | f + 1, s, S, h => by
    refine sumTo_congr fun i hi => ?_
    have e : mayO ns s i = mnB n (lt ns) S i := by
      rw [Bool.eq_iff_iff, mayO_iff, mnB_iff, h i hi, Bool.not_eq_true']
      refine and_congr Iff.rfl ⟨fun hb y hy hs => ?_, fun hb a ha => ?_⟩
      · rw [h y hy, Bool.not_eq_true'] at hs
        cases hl : lt ns y i
        · rfl
        · rw [hb y hl] at hs; cases hs
      · have han : a < n := by
          apply Classical.byContradiction
          intro hn
          unfold lt at ha
          have hlt := hv.2 (ns.getD i 0) (by rw [List.getD_eq_getElem?_getD, List.getElem?_eq_getElem (by rw [hv.1]; exact hi)]; exact List.getElem_mem _)
          rw [Nat.testBit_lt_two_pow (Nat.lt_of_lt_of_le hlt (Nat.pow_le_pow_right (by decide) (by omega)))] at ha
          cases ha
        cases hs : s.testBit a
        · rw [hb a han (by rw [h a han, hs]; rfl)] at ha; cases ha
        · rfl
    rw [e]
    by_cases hm : mnB n (lt ns) S i = true
    · rw [if_pos hm, if_pos hm]
      refine cnt_eX hv f _ _ fun j hj => ?_
      rw [rm_bit, h j hj, Nat.testBit_or, Nat.testBit_two_pow, Bool.not_or]
    · rw [if_neg hm, if_neg hm]
theorem rest_eS {n : Nat} {ns : List Nat} (hv : Vld n ns) {S : Nat} (hS : ∀ i, i < n → S.testBit i = true) : rest n (mayO ns) 0 = eS n (lt ns) S := by
  rw [rest_nought]
  have hp : ∀ m, (∀ i, i < m → S.testBit i = true) → pcE m S = m := by
    intro m
    induction m with
    | zero => intro _; rfl
    | succ m ih =>
      intro h
      unfold pcE
      rw [ih fun i hi => h i (by omega), h m (by omega)]; rfl
  unfold eS
  rw [hp n hS]
  exact cnt_eX hv n 0 S fun i hi => by rw [hS i hi, Nat.zero_testBit]; rfl
end Go.Proofs.YtbgecpjlopdkfaaDoor
