import Derived.Test.YtkbcbahpcnemmaaHr
import Derived.Test.YtkbcbahpcnemmaaFi
import Derived.Test.YtkbcbahpcnemmaaFr
set_option linter.unusedSimpArgs false
set_option linter.unusedVariables false
set_option linter.unusedSectionVars false
set_option maxRecDepth 20000
namespace Go.Proofs.Ytkbcbahpcnemmaa
/-- Is a set a chain? -/
def chB (n : Nat) (ns : List Nat) (s : Nat) : Bool := (List.range n).all fun i => (List.range i).all fun k => !(s.testBit i && s.testBit k) || (lt ns i k || lt ns k i)
theorem chB_iff {n : Nat} {ns : List Nat} {s : Nat} : chB n ns s = true ↔ ∀ i, i < n → ∀ k, k < i → s.testBit i = true → s.testBit k = true → (lt ns i k = true ∨ lt ns k i = true) := by
  unfold chB
  rw [List.all_eq_true]
  constructor
  · intro h i hi k hk h1 h2
    have := List.all_eq_true.1 (h i (List.mem_range.2 hi)) k (List.mem_range.2 hk)
    rw [h1, h2] at this
    simpa using this
  · intro h i hi
    refine List.all_eq_true.2 fun k hk => ?_
    have := h i (List.mem_range.1 hi) k (List.mem_range.1 hk)
    cases h1 : s.testBit i <;> cases h2 : s.testBit k <;> simp_all
theorem chB_two {n : Nat} {ns : List Nat} {s i k : Nat} (h : chB n ns s = true) (hi : i < n) (hk : k < n) (h1 : s.testBit i = true) (h2 : s.testBit k = true) : i = k ∨ lt ns i k = true ∨ lt ns k i = true := by
  rcases Nat.lt_trichotomy i k with h3 | h3 | h3
  · rcases chB_iff.1 h k hk i h3 h2 h1 with h4 | h4
    · exact .inr (.inr h4)
    · exact .inr (.inl h4)
  · exact .inl h3
  · rcases chB_iff.1 h i hi k h3 h1 h2 with h4 | h4
    · exact .inr (.inl h4)
    · exact .inr (.inr h4)
/-- Is a point a set's highest one? -/
def topC (n : Nat) (ns : List Nat) (s b : Nat) : Bool := s.testBit b && (List.range n).all fun i => !s.testBit i || (decide (i = b) || lt ns i b)
theorem topC_iff {n : Nat} {ns : List Nat} {s b : Nat} : topC n ns s b = true ↔ s.testBit b = true ∧ ∀ i, i < n → s.testBit i = true → i = b ∨ lt ns i b = true := by
  unfold topC
  rw [Bool.and_eq_true, List.all_eq_true]
  constructor
  · rintro ⟨h1, h2⟩
    refine ⟨h1, fun i hi h => ?_⟩
    have := h2 i (List.mem_range.2 hi)
    rw [h] at this
    simpa using this
  · rintro ⟨h1, h2⟩
    refine ⟨h1, fun i hi => ?_⟩
    have := h2 i (List.mem_range.1 hi)
    cases h : s.testBit i <;> simp_all
/-- Chains of k + 1 points with a highest point. -/
def endT (n : Nat) (ns : List Nat) : Nat → Nat → Nat
  | 0, _ => 1
  | k + 1, b => sumTo (fun a => if lt ns a b = true then endT n ns k a else 0) n
def chQ (n : Nat) (ns : List Nat) (k s : Nat) : Bool := chB n ns s && decide (pcTo s n = k)
/-- Chains of so many points. -/
def chC (n : Nat) (ns : List Nat) (k : Nat) : Nat := cn (chQ n ns k) (2 ^ n)
theorem sumTo_sw (f : Nat → Nat → Nat) (n : Nat) : ∀ m, sumTo (fun a => sumTo (fun b => f a b) n) m = sumTo (fun b => sumTo (fun a => f a b) m) n
  | 0 => (sumTo_zero fun _ _ => rfl).symm
  | m + 1 => by
    show sumTo (fun a => sumTo (fun b => f a b) n) m + sumTo (fun b => f m b) n = _
    rw [sumTo_sw f n m, ← sumTo_add]
    rfl
theorem sumTo_sgl {f : Nat → Nat} {b : Nat} : ∀ {n : Nat}, b < n → (∀ i, i < n → i ≠ b → f i = 0) → sumTo f n = f b
  | 0, h, _ => absurd h (Nat.not_lt_zero _)
  | n + 1, h, h0 => by
    show sumTo f n + f n = f b
    by_cases e : b = n
    · subst e
      rw [sumTo_zero fun i hi => h0 i (by omega) (by omega), Nat.zero_add]
    · rw [sumTo_sgl (by omega) fun i hi => h0 i (by omega), h0 n (by omega) (Ne.symm e), Nat.add_zero]
theorem sumTo_up {f : Nat → Nat} : ∀ {m k : Nat}, k ≤ m → sumTo f k ≤ sumTo f m
  | 0, k, h => by rw [Nat.le_zero.1 h]; exact Nat.le_refl _
  | m + 1, k, h => by
    by_cases e : k = m + 1
    · rw [e]; exact Nat.le_refl _
    · exact Nat.le_trans (sumTo_up (m := m) (by omega)) (Nat.le_add_right _ _)
theorem list_eqC {a b : List Nat} (hl : a.length = b.length) (h : ∀ i, i < a.length → a.getD i 0 = b.getD i 0) : a = b := by
  refine List.ext_getElem hl fun i h1 h2 => ?_
  have := h i h1
  rwa [List.getD_eq_getElem?_getD, List.getD_eq_getElem?_getD, List.getElem?_eq_getElem h1, List.getElem?_eq_getElem h2] at this
theorem cn_sum (p : Nat → Bool) : ∀ N, cn p N = sumTo (fun s => if p s = true then 1 else 0) N
  | 0 => rfl
  | N + 1 => by rw [cn_s, cn_sum p N]; rfl
/-- Each that is such has just one mark of n. -/
theorem cn_part {p : Nat → Bool} {q : Nat → Nat → Bool} {n N : Nat} (h : ∀ s, s < N → p s = true → ∃ b, b < n ∧ q s b = true ∧ ∀ c, c < n → q s c = true → c = b) : cn p N = sumTo (fun b => cn (fun s => p s && q s b) N) n := by
  rw [cn_sum]
  have e : sumTo (fun b => cn (fun s => p s && q s b) N) n = sumTo (fun s => sumTo (fun b => if (p s && q s b) = true then 1 else 0) n) N := by
    rw [sumTo_sw]
    exact sumTo_congr fun b _ => cn_sum _ N
  rw [e]
  refine sumTo_congr fun s hs => ?_
  cases hp : p s
  · rw [if_neg (by decide)]
    exact (sumTo_zero fun b _ => by simp).symm
  · obtain ⟨b, hb, h1, h2⟩ := h s hs hp
    rw [if_pos rfl, sumTo_sgl hb fun i hi hne => by
      cases hq : q s i
      · simp
      · exact absurd (h2 i hi hq) hne]
    simp [h1]
theorem add_bitC {s p : Nat} (h : s.testBit p = false) : s + 2 ^ p = s ||| 2 ^ p := by
  have hz : s &&& 2 ^ p = 0 := Nat.eq_of_testBit_eq fun i => by
    rw [Nat.testBit_and, Nat.testBit_two_pow, Nat.zero_testBit]
    by_cases e : p = i
    · subst e; rw [h]; rfl
    · rw [decide_eq_false e, Bool.and_false]
  have := or_add_and (s + 1) s (2 ^ p) (Nat.lt_trans (Nat.lt_succ_self s) Nat.lt_two_pow_self)
  rw [hz, Nat.add_zero] at this
  exact this
theorem add_pcC {s p n : Nat} (h : s.testBit p = false) (hp : p < n) : pcTo (s + 2 ^ p) n = pcTo s n + 1 := by
  rw [add_bitC h, pc_cn, pc_cn, cn_erase (q := fun i => (s ||| 2 ^ p).testBit i) (y := p) (by rw [Nat.testBit_or, Nat.testBit_two_pow, decide_eq_true rfl, Bool.or_true]) n hp]
  congr 1
  refine cn_congr n fun i _ => ?_
  rw [Nat.testBit_or, Nat.testBit_two_pow]
  by_cases e : i = p
  · subst e; rw [h, decide_eq_true rfl]; rfl
  · rw [decide_eq_false e, decide_eq_false (Ne.symm e), Bool.or_false, Bool.not_false, Bool.and_true]
theorem add_ltC {s p n : Nat} (h : s.testBit p = false) (hs : s < 2 ^ n) (hp : p < n) : s + 2 ^ p < 2 ^ n := by
  rw [add_bitC h]; exact Nat.or_lt_two_pow hs (Nat.pow_lt_pow_right (by decide) hp)
theorem add_tbC {s p x : Nat} (h : s.testBit p = false) : (s + 2 ^ p).testBit x = true ↔ s.testBit x = true ∨ x = p := by
  rw [add_bitC h, Nat.testBit_or, Nat.testBit_two_pow, Bool.or_eq_true, decide_eq_true_eq, eq_comm (a := p)]
/-- A set less one of its points. -/
theorem sub_exC {s p : Nat} (h : s.testBit p = true) : ∃ t, t.testBit p = false ∧ t + 2 ^ p = s ∧ ∀ x, t.testBit x = true ↔ s.testBit x = true ∧ x ≠ p := by
  have hb : ∀ x, (ndiff s (2 ^ p)).testBit x = (s.testBit x && !decide (p = x)) := fun x => by rw [testBit_ndiff, Nat.testBit_two_pow]
  have h0 : (ndiff s (2 ^ p)).testBit p = false := by rw [hb]; simp
  refine ⟨ndiff s (2 ^ p), h0, ?_, fun x => ?_⟩
  · rw [add_bitC h0]
    refine Nat.eq_of_testBit_eq fun i => ?_
    rw [Nat.testBit_or, hb, Nat.testBit_two_pow]
    by_cases e : p = i
    · subst e; rw [h]; simp
    · rw [decide_eq_false e]; simp
  · rw [hb, Bool.and_eq_true, Bool.not_eq_true', decide_eq_false_iff_not]
    exact ⟨fun h => ⟨h.1, fun e => h.2 e.symm⟩, fun h => ⟨h.1, fun e => h.2 e.symm⟩⟩
theorem pow_bitC {b x : Nat} : (2 ^ b).testBit x = true ↔ x = b := by rw [Nat.testBit_two_pow, decide_eq_true_eq, eq_comm]
theorem bit_ltC {n s k : Nat} (hs : s < 2 ^ n) (h : s.testBit k = true) : k < n := by
  rcases Nat.lt_or_ge k n with h1 | h1
  · exact h1
  · rw [Nat.testBit_lt_two_pow (Nat.lt_of_lt_of_le hs (Nat.pow_le_pow_right (n := 2) (by decide) h1))] at h; cases h
theorem pc_zeroC {n : Nat} : pcTo 0 n = 0 := by
  rw [pc_cn, cn_congr (q := fun _ => false) n fun i _ => Nat.zero_testBit i]
  induction n with
  | zero => rfl
  | succ k ih => rw [cn_s, ih]; rfl
theorem pc_posC {n s : Nat} (h : pcTo s n ≠ 0) : ∃ x, x < n ∧ s.testBit x = true := by
  rw [pc_cn, cn_sum] at h
  obtain ⟨i, hi, h1⟩ := sumTo_pos h
  refine ⟨i, hi, ?_⟩
  cases hb : s.testBit i
  · rw [hb] at h1; exact absurd rfl h1
  · rfl
theorem pc_eq0C {n s : Nat} (hs : s < 2 ^ n) (h : pcTo s n = 0) : s = 0 := by
  refine Nat.eq_of_testBit_eq fun i => ?_
  rw [Nat.zero_testBit]
  cases hb : s.testBit i
  · rfl
  · exfalso
    obtain ⟨t, h1, h2, _⟩ := sub_exC hb
    rw [← h2, add_pcC h1 (bit_ltC hs hb)] at h
    omega
section
variable {n : Nat} {ns : List Nat}
theorem tr3C (hok : okB n ns = true) {i j k : Nat} (hi : i < n) (hk : k < n) (h1 : lt ns i j = true) (h2 : lt ns j k = true) (hj : j < n) : lt ns i k = true := okB_tr hok hk hj h2 h1
theorem asC (hok : okB n ns = true) {i j : Nat} (hi : i < n) (hj : j < n) (h1 : lt ns i j = true) (h2 : lt ns j i = true) : False := by
  have := tr3C hok hi hi h1 h2 hj
  rw [okB_irr hok hi] at this; cases this
theorem top_exC (hok : okB n ns = true) : ∀ (k s : Nat), s < 2 ^ n → chB n ns s = true → pcTo s n = k + 1 → ∃ b, b < n ∧ topC n ns s b = true
  | k, s, hs, hc, hp => by
    obtain ⟨x, hx, hb⟩ := pc_posC (n := n) (s := s) (by omega)
    obtain ⟨t, h1, h2, h3⟩ := sub_exC hb
    have hpt : pcTo t n = k := by
      have := add_pcC (n := n) h1 hx
      rw [h2] at this; omega
    have ht : t < 2 ^ n := Nat.lt_of_le_of_lt (h2 ▸ Nat.le_add_right t _) hs
    have hct : chB n ns t = true := chB_iff.2 fun i hi j hj a1 a2 => chB_iff.1 hc i hi j hj ((h3 i).1 a1).1 ((h3 j).1 a2).1
    cases k with
    | zero =>
      refine ⟨x, hx, topC_iff.2 ⟨hb, fun i hi hi1 => ?_⟩⟩
      rcases Nat.decEq i x with h | h
      · exfalso
        have h0 := pc_eq0C ht hpt
        have := (h3 i).2 ⟨hi1, h⟩
        rw [h0, Nat.zero_testBit] at this; cases this
      · exact .inl h
    | succ k =>
      obtain ⟨b, hbn, htop⟩ := top_exC hok k t ht hct hpt
      obtain ⟨b1, b2⟩ := topC_iff.1 htop
      have hbs := ((h3 b).1 b1).1
      rcases chB_two hc hbn hx hbs hb with h | h | h
      · exact absurd h ((h3 b).1 b1).2
      · refine ⟨x, hx, topC_iff.2 ⟨hb, fun i hi hi1 => ?_⟩⟩
        by_cases e : i = x
        · exact .inl e
        · rcases b2 i hi ((h3 i).2 ⟨hi1, e⟩) with h4 | h4
          · subst h4; exact .inr h
          · exact .inr (tr3C hok hi hx h4 h hbn)
      · refine ⟨b, hbn, topC_iff.2 ⟨hbs, fun i hi hi1 => ?_⟩⟩
        by_cases e : i = x
        · subst e; exact .inr h
        · exact b2 i hi ((h3 i).2 ⟨hi1, e⟩)
theorem top_unC (hok : okB n ns = true) {s b c : Nat} (hb : b < n) (hc : c < n) (h1 : topC n ns s b = true) (h2 : topC n ns s c = true) : c = b := by
  obtain ⟨a1, a2⟩ := topC_iff.1 h1
  obtain ⟨b1, b2⟩ := topC_iff.1 h2
  rcases a2 c hc b1 with h | h
  · exact h
  · rcases b2 b hb a1 with h' | h'
    · exact h'.symm
    · exact (asC hok hc hb h h').elim
/-- A chain with a point above all. -/
theorem chain_addC (hok : okB n ns = true) {t a b : Nat} (hb : b < n) (ha : a < n) (hc : chB n ns t = true) (htop : topC n ns t a = true) (hl : lt ns a b = true) : t.testBit b = false ∧ chB n ns (t + 2 ^ b) = true ∧ topC n ns (t + 2 ^ b) b = true := by
  obtain ⟨a1, a2⟩ := topC_iff.1 htop
  have hlow : ∀ i, i < n → t.testBit i = true → lt ns i b = true := fun i hi h => by
    rcases a2 i hi h with h' | h'
    · subst h'; exact hl
    · exact tr3C hok hi hb h' hl ha
  have hf : t.testBit b = false := by
    cases h : t.testBit b
    · rfl
    · have := hlow b hb h
      rw [okB_irr hok hb] at this; cases this
  refine ⟨hf, chB_iff.2 fun i hi k hk h1 h2 => ?_, topC_iff.2 ⟨(add_tbC hf).2 (.inr rfl), fun i hi h => ?_⟩⟩
  · rcases (add_tbC hf).1 h1 with h3 | h3
    · rcases (add_tbC hf).1 h2 with h4 | h4
      · exact chB_iff.1 hc i hi k hk h3 h4
      · subst h4; exact .inl (hlow i hi h3)
    · rcases (add_tbC hf).1 h2 with h4 | h4
      · subst h3; exact .inr (hlow k (by omega) h4)
      · omega
  · rcases (add_tbC hf).1 h with h3 | h3
    · exact .inr (hlow i hi h3)
    · exact .inl h3
theorem chain_subC {s b : Nat} (hc : chB n ns s = true) {t : Nat} (h3 : ∀ x, t.testBit x = true ↔ s.testBit x = true ∧ x ≠ b) : chB n ns t = true :=
  chB_iff.2 fun i hi j hj a1 a2 => chB_iff.1 hc i hi j hj ((h3 i).1 a1).1 ((h3 j).1 a2).1
/-- As many chains of k + 1 points with this highest one as said. -/
theorem endT_cn (hok : okB n ns = true) : ∀ k b, b < n → cn (fun s => chQ n ns (k + 1) s && topC n ns s b) (2 ^ n) = endT n ns k b
  | 0, b, hb => by
    have h1 : ∀ s, s < 2 ^ n → (chQ n ns (0 + 1) s && topC n ns s b) = decide (s = 2 ^ b) := fun s hs => by
      rw [Bool.eq_iff_iff, Bool.and_eq_true, decide_eq_true_eq]
      unfold chQ
      rw [Bool.and_eq_true, decide_eq_true_eq]
      constructor
      · rintro ⟨⟨_, h2⟩, h3⟩
        obtain ⟨t, a1, a2, a3⟩ := sub_exC (topC_iff.1 h3).1
        rw [← a2, add_pcC a1 hb] at h2
        have h0 := pc_eq0C (n := n) (s := t) (Nat.lt_of_le_of_lt (a2 ▸ Nat.le_add_right t _) hs) (by omega)
        rw [← a2, h0, Nat.zero_add]
      · rintro rfl
        refine ⟨⟨chB_iff.2 fun i _ k hk a1 a2 => ?_, ?_⟩, topC_iff.2 ⟨pow_bitC.2 rfl, fun i _ h => .inl (pow_bitC.1 h)⟩⟩
        · have := pow_bitC.1 a1; have := pow_bitC.1 a2; omega
        · have := add_pcC (s := 0) (n := n) (Nat.zero_testBit b) hb
          rw [Nat.zero_add, pc_zeroC] at this; exact this
    rw [cn_congr _ h1, cn_sum, sumTo_sgl (b := 2 ^ b) (Nat.pow_lt_pow_right (by decide) hb) (fun i _ hi => by simp [hi])]
    simp [endT]
  | k + 1, b, hb => by
    show _ = sumTo (fun a => if lt ns a b = true then endT n ns k a else 0) n
    have e : sumTo (fun a => if lt ns a b = true then endT n ns k a else 0) n = sumTo (fun a => cn (fun t => (chQ n ns (k + 1) t && (List.range n).any fun a => lt ns a b && topC n ns t a) && topC n ns t a) (2 ^ n)) n := by
      refine sumTo_congr fun a ha => ?_
      cases hl : lt ns a b
      · rw [if_neg (by decide), cn_congr (q := fun _ => false) _ fun t ht => ?_, cn_sum]
        · exact (sumTo_zero fun _ _ => rfl).symm
        · cases h1 : topC n ns t a
          · simp
          · rw [Bool.and_true]
            cases hx : ((List.range n).any fun a => lt ns a b && topC n ns t a)
            · simp
            · obtain ⟨c, hc, hc2⟩ := List.any_eq_true.1 hx
              rw [Bool.and_eq_true] at hc2
              have := top_unC hok ha (List.mem_range.1 hc) h1 hc2.2
              subst this
              rw [hl] at hc2; cases hc2.1
      · rw [if_pos rfl, ← endT_cn hok k a ha]
        refine cn_congr _ fun t ht => ?_
        cases h1 : topC n ns t a
        · simp
        · rw [Bool.and_true, Bool.and_true, List.any_eq_true.2 ⟨a, List.mem_range.2 ha, by rw [hl, h1]; rfl⟩, Bool.and_true]
    rw [e, ← cn_part (fun t ht h => ?_)]
    rotate_left 1
    · rw [Bool.and_eq_true] at h
      obtain ⟨c, hc, hc2⟩ := List.any_eq_true.1 h.2
      rw [Bool.and_eq_true] at hc2
      exact ⟨c, List.mem_range.1 hc, hc2.2, fun d hd hd2 => top_unC hok (List.mem_range.1 hc) hd hc2.2 hd2⟩
    refine Nat.le_antisymm (cn_inj (f := fun s => s - 2 ^ b) _ _ (fun s hs h => ?_) (fun s s' hs hs' h h' he => ?_)) (cn_inj (f := fun t => t + 2 ^ b) _ _ (fun t ht h => ?_) (fun s s' _ _ _ _ he => by omega))
    · unfold chQ at h
      simp only [Bool.and_eq_true, decide_eq_true_eq] at h
      obtain ⟨⟨hc, hp⟩, htop⟩ := h
      obtain ⟨t, a1, a2, a3⟩ := sub_exC (topC_iff.1 htop).1
      have et : s - 2 ^ b = t := by omega
      rw [et]
      have hct := chain_subC hc a3
      have hpt : pcTo t n = k + 1 := by rw [← a2, add_pcC a1 hb] at hp; omega
      obtain ⟨a, ha, hta⟩ := top_exC hok k t (Nat.lt_of_le_of_lt (a2 ▸ Nat.le_add_right t _) hs) hct hpt
      refine ⟨Nat.lt_of_le_of_lt (a2 ▸ Nat.le_add_right t _) hs, ?_⟩
      rw [Bool.and_eq_true]
      refine ⟨by unfold chQ; rw [hct, hpt]; simp, List.any_eq_true.2 ⟨a, List.mem_range.2 ha, ?_⟩⟩
      rw [Bool.and_eq_true]
      refine ⟨?_, hta⟩
      have hta1 := (topC_iff.1 hta).1
      rcases (topC_iff.1 htop).2 a ha ((a3 a).1 hta1).1 with h | h
      · exact absurd h ((a3 a).1 hta1).2
      · exact h
    · simp only [Bool.and_eq_true] at h h'
      obtain ⟨t, _, a2, _⟩ := sub_exC (topC_iff.1 h.2).1
      obtain ⟨t', _, a2', _⟩ := sub_exC (topC_iff.1 h'.2).1
      omega
    · rw [Bool.and_eq_true] at h
      obtain ⟨h1, h2⟩ := h
      obtain ⟨a, ha, h3⟩ := List.any_eq_true.1 h2
      rw [Bool.and_eq_true] at h3
      unfold chQ at h1 ⊢
      simp only [Bool.and_eq_true, decide_eq_true_eq] at h1 ⊢
      obtain ⟨b1, b2, b3⟩ := chain_addC hok hb (List.mem_range.1 ha) h1.1 h3.2 h3.1
      exact ⟨add_ltC b1 ht hb, ⟨b2, by rw [add_pcC b1 hb, h1.2]⟩, b3⟩
theorem chC_succ (hok : okB n ns = true) (k : Nat) : chC n ns (k + 1) = sumTo (endT n ns k) n := by
  unfold chC
  rw [cn_part (q := fun s b => topC n ns s b) (fun s hs h => ?_)]
  · exact sumTo_congr fun b hb => endT_cn hok k b hb
  · unfold chQ at h
    simp only [Bool.and_eq_true, decide_eq_true_eq] at h
    obtain ⟨b, hb, h1⟩ := top_exC hok k s hs h.1 h.2
    exact ⟨b, hb, h1, fun c hc h2 => top_unC hok hb hc h1 h2⟩
theorem chB_zero : chB n ns 0 = true := chB_iff.2 fun i _ k _ h _ => by rw [Nat.zero_testBit] at h; cases h
theorem chC_zero : chC n ns 0 = 1 := by
  unfold chC
  have h1 : ∀ s, s < 2 ^ n → chQ n ns 0 s = decide (s = 0) := fun s hs => by
    unfold chQ
    rw [Bool.eq_iff_iff, Bool.and_eq_true, decide_eq_true_eq, decide_eq_true_eq]
    exact ⟨fun h => pc_eq0C hs h.2, fun h => by subst h; exact ⟨chB_zero, pc_zeroC⟩⟩
  rw [cn_congr _ h1, cn_sum, sumTo_sgl (b := 0) (Nat.pow_pos (by decide)) (fun i _ hi => by simp [hi])]
  simp
theorem endT_le (hok : okB n ns = true) (k : Nat) {b : Nat} (hb : b < n) : endT n ns k b ≤ 2 ^ n := by rw [← endT_cn hok k b hb]; exact cn_le _ _
theorem chC_le (k : Nat) : chC n ns k ≤ 2 ^ n := cn_le _ _
/-- Where there are none of some size, there are none of a greater one. -/
theorem chC_none (hok : okB n ns = true) {k : Nat} (h : chC n ns (k + 1) = 0) : chC n ns (k + 2) = 0 := by
  rw [chC_succ hok] at h ⊢
  refine sumTo_zero fun b hb => sumTo_zero fun a ha => ?_
  have := sumTo_one (g := endT n ns k) ha
  split <;> omega
theorem chC_stay (hok : okB n ns = true) {k : Nat} (h : chC n ns (k + 1) = 0) : ∀ d, chC n ns (k + 1 + d) = 0
  | 0 => h
  | d + 1 => by
    have := chC_none hok (k := k + d) (by rw [show k + d + 1 = k + 1 + d by omega]; exact chC_stay hok h d)
    rw [show k + 1 + (d + 1) = k + d + 2 by omega]; exact this
theorem chC_top {k : Nat} (h : n < k) : chC n ns k = 0 := by
  unfold chC
  rw [cn_congr (q := fun _ => false) _ fun s _ => ?_, cn_sum]
  · exact sumTo_zero fun _ _ => rfl
  · unfold chQ
    have := pcTo_le s n
    rw [decide_eq_false (by omega), Bool.and_false]
/-- How many sizes there are, among the sets below s. -/
def lenC (n : Nat) (ns : List Nat) : Nat → Nat
  | 0 => 0
  | s + 1 => if chB n ns s = true then max (lenC n ns s) (pcTo s n + 1) else lenC n ns s
def cntC (n : Nat) (ns : List Nat) (s : Nat) : List Nat := (List.range (lenC n ns s)).map fun k => cn (chQ n ns k) s
theorem lenC_le : ∀ s, lenC n ns s ≤ n + 1
  | 0 => Nat.zero_le _
  | s + 1 => by
    have := lenC_le s
    have := pcTo_le s n
    rw [lenC]; split <;> omega
theorem lenC_ge {t : Nat} (h : chB n ns t = true) : ∀ s, t < s → pcTo t n < lenC n ns s
  | 0, h' => absurd h' (Nat.not_lt_zero _)
  | s + 1, h' => by
    rw [lenC]
    by_cases e : t = s
    · subst e; rw [if_pos h]; omega
    · have := lenC_ge h s (by omega)
      split <;> omega
theorem lenC_at : ∀ s, lenC n ns s = 0 ∨ ∃ t, t < s ∧ chB n ns t = true ∧ lenC n ns s = pcTo t n + 1
  | 0 => .inl rfl
  | s + 1 => by
    rw [lenC]
    rcases lenC_at s with h | ⟨t, h1, h2, h3⟩
    · split
      · rename_i hc; exact .inr ⟨s, Nat.lt_succ_self s, hc, by omega⟩
      · exact .inl h
    · split
      · rename_i hc
        by_cases e : pcTo t n < pcTo s n
        · exact .inr ⟨s, Nat.lt_succ_self s, hc, by omega⟩
        · exact .inr ⟨t, by omega, h2, by omega⟩
      · exact .inr ⟨t, by omega, h2, h3⟩
theorem cn_above {s k : Nat} (h : lenC n ns s ≤ k) : cn (chQ n ns k) s = 0 := by
  rw [cn_sum]
  refine sumTo_zero fun t ht => ?_
  unfold chQ
  cases hc : chB n ns t
  · simp
  · have := lenC_ge hc s ht
    simp; omega
theorem cn_some {p : Nat → Bool} {N t : Nat} (ht : t < N) (h : p t = true) : cn p N ≠ 0 := by
  rw [cn_sum]
  have := sumTo_one (g := fun s => if p s = true then 1 else 0) ht
  rw [if_pos h] at this
  omega
theorem lenC_all (hok : okB n ns = true) {k : Nat} : k < lenC n ns (2 ^ n) ↔ chC n ns k ≠ 0 := by
  constructor
  · intro h
    rcases lenC_at (n := n) (ns := ns) (2 ^ n) with h1 | ⟨t, h1, h2, h3⟩
    · omega
    · have ht : chC n ns (pcTo t n) ≠ 0 := cn_some (p := chQ n ns (pcTo t n)) h1 (by unfold chQ; rw [h2]; simp)
      intro h0
      cases k with
      | zero => rw [chC_zero] at h0; cases h0
      | succ k =>
        have := chC_stay hok h0 (pcTo t n - (k + 1))
        rw [show k + 1 + (pcTo t n - (k + 1)) = pcTo t n by omega] at this
        exact ht this
  · intro h
    rcases Nat.lt_or_ge k (lenC n ns (2 ^ n)) with h1 | h1
    · exact h1
    · exact absurd (cn_above h1) h
/-- What the first m lists say, once there are none of m points, is all. -/
theorem cntC_eq (hok : okB n ns = true) {m : Nat} (h0 : chC n ns m = 0) (h1 : ∀ k, k < m → chC n ns k ≠ 0) : cntC n ns (2 ^ n) = (List.range m).map (chC n ns) := by
  have : lenC n ns (2 ^ n) = m := by
    rcases Nat.lt_trichotomy (lenC n ns (2 ^ n)) m with h | h | h
    · have := (lenC_all hok).2 (h1 _ h); omega
    · exact h
    · exact absurd h0 ((lenC_all hok).1 h)
  unfold cntC
  rw [this]
  rfl
end
end Go.Proofs.Ytkbcbahpcnemmaa
