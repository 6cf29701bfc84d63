/- Points side by side are mixed in all ways; one above the other they are told one after the other (plain). -/
import Derived.Test.YtmfhmpdpebpijaaHz
import Derived.Test.YtmfhmpdpebpijaaFi
set_option linter.unusedSimpArgs false
set_option linter.unusedVariables false
namespace Go.Proofs.Ytmfhmpdpebpijaa
attribute [local irreducible] QOp aL aC qL
theorem bothD_bit {n m : Nat} (ns ms : List Nat) (over : Bool) {a b : Nat} (ha : a < n + m) (hb : b < n + m) : ((ofn (n + m) (bothP n ns ms over)).getD b 0).testBit a = bothP n ns ms over a b := ofn_lt _ ha hb
theorem bothD_big {n m : Nat} (ns ms : List Nat) (over : Bool) {a b : Nat} (h : ((ofn (n + m) (bothP n ns ms over)).getD b 0).testBit a = true) : a < n + m := by
  rcases Nat.lt_or_ge a (n + m) with h1 | h1
  · exact h1
  · rw [Nat.testBit_lt_two_pow (Nat.lt_of_lt_of_le ((ofn_vld _ _).get b) (Nat.pow_le_pow_right (by decide) h1))] at h; cases h
theorem mayV_iff {ns : List Nat} {s p : Nat} : mayO ns s p = true ↔ s.testBit p = false ∧ ∀ a, (ns.getD p 0).testBit a = true → s.testBit a = true := by
  unfold mayO
  rw [Bool.and_eq_true, Bool.not_eq_true', sub_iff]
theorem may_lo {n m : Nat} {ns ms : List Nat} (over : Bool) (hv : Vld n ns) (s i : Nat) (hi : i < n) : mayO (ofn (n + m) (bothP n ns ms over)) s i = mayO ns (s % 2 ^ n) i := by
  rw [Bool.eq_iff_iff, mayV_iff, mayV_iff, Nat.testBit_mod_two_pow, decide_eq_true hi, Bool.true_and]
  refine and_congr_right fun _ => ⟨fun h a ha => ?_, fun h a ha => ?_⟩
  · have han : a < n := lt_lt hv.2 ha
    rw [Nat.testBit_mod_two_pow, decide_eq_true han, Bool.true_and]
    refine h a ?_
    rw [bothD_bit ns ms over (by omega) (by omega)]
    unfold bothP; rw [if_pos ⟨han, hi⟩]; exact ha
  · have han := bothD_big ns ms over ha
    rw [bothD_bit ns ms over han (by omega)] at ha
    unfold bothP at ha
    split at ha
    · rename_i hc
      have := h a ha
      rw [Nat.testBit_mod_two_pow, decide_eq_true hc.1, Bool.true_and] at this
      exact this
    · rw [if_neg (by omega), Bool.and_eq_true, decide_eq_true_eq] at ha
      omega
theorem may_hi {n m : Nat} {ns ms : List Nat} (over : Bool) (hw : Vld m ms) (s j : Nat) (hj : j < m) : mayO (ofn (n + m) (bothP n ns ms over)) s (n + j) = (mayO ms (s / 2 ^ n) j && (!over || decide (mis n (s % 2 ^ n) = 0))) := by
  rw [Bool.eq_iff_iff, mayV_iff, Bool.and_eq_true, mayV_iff, Nat.testBit_div_two_pow, Nat.add_comm j n, and_assoc]
  refine and_congr_right fun _ => ⟨fun h => ⟨fun a ha => ?_, ?_⟩, fun h a ha => ?_⟩
  · have ham : a < m := lt_lt hw.2 ha
    rw [Nat.testBit_div_two_pow, Nat.add_comm a n]
    refine h (n + a) ?_
    rw [bothD_bit ns ms over (by omega) (by omega)]
    unfold bothP
    rw [if_neg (by omega), if_pos (by omega), Nat.add_sub_cancel_left, Nat.add_sub_cancel_left]; exact ha
  · cases over
    · rfl
    · rw [Bool.not_true, Bool.false_or, decide_eq_true_eq, mis_zero]
      intro i hi
      rw [Nat.testBit_mod_two_pow, decide_eq_true hi, Bool.true_and]
      refine h i ?_
      rw [bothD_bit ns ms true (by omega) (by omega)]
      unfold bothP
      rw [if_neg (by omega), if_neg (by omega), Bool.true_and, decide_eq_true_eq]
      omega
  · have han := bothD_big ns ms over ha
    rw [bothD_bit ns ms over han (by omega)] at ha
    unfold bothP at ha
    rw [if_neg (by omega)] at ha
    split at ha
    · rename_i hc
      rw [Nat.add_sub_cancel_left] at ha
      have := h.1 (a - n) ha
      rw [Nat.testBit_div_two_pow, show a - n + n = a by omega] at this
      exact this
    · rw [Bool.and_eq_true, decide_eq_true_eq] at ha
      have h2 := h.2
      rw [ha.1, Bool.not_true, Bool.false_or, decide_eq_true_eq, mis_zero] at h2
      have h3 := h2 a (by omega)
      rw [Nat.testBit_mod_two_pow, Bool.and_eq_true] at h3
      exact h3.2
theorem rest_side {n m : Nat} {ns ms : List Nat} (hv : Vld n ns) (hw : Vld m ms) : rest (n + m) (mayO (ofn (n + m) (bothP n ns ms false))) 0 = ch n m * (rest n (mayO ns) 0 * rest m (mayO ms) 0) := by
  rw [rest_nought, rest_nought, rest_nought]
  have := cnt_side (n := n) (m := m) (may := mayO (ofn (n + m) (bothP n ns ms false))) (mA := mayO ns) (mB := mayO ms) (fun s i hi => may_lo false hv s i hi)
    (fun s j hj => by rw [may_hi false hw s j hj, Bool.not_false, Bool.true_or, Bool.and_true]) (fun _ _ h => mayO_not h) (fun _ _ h => mayO_not h) (n + m) n m 0 rfl (by rw [Nat.zero_mod, mis_nought]) (by rw [Nat.zero_div, mis_nought])
  rwa [Nat.zero_mod, Nat.zero_div] at this
theorem rest_over {n m : Nat} {ns ms : List Nat} (hv : Vld n ns) (hw : Vld m ms) : rest (n + m) (mayO (ofn (n + m) (bothP n ns ms true))) 0 = rest n (mayO ns) 0 * rest m (mayO ms) 0 := by
  rw [rest_nought, rest_nought, rest_nought]
  have := cnt_over (n := n) (m := m) (may := mayO (ofn (n + m) (bothP n ns ms true))) (mA := mayO ns) (mB := mayO ms) (fun s i hi => may_lo true hv s i hi) (fun _ _ h => mayO_not h)
    (fun s j hj h => by rw [may_hi true hw s j hj, h, decide_eq_true rfl, Bool.or_true, Bool.and_true])
    (fun s j hj h => by rw [may_hi true hw s j hj, decide_eq_false h, Bool.not_true, Bool.false_or, Bool.and_false]) n 0 (by rw [Nat.zero_mod, mis_nought]) (by rw [Nat.zero_div])
  rwa [Nat.zero_mod] at this
theorem both_okO {n m : Nat} {ns ms : List Nat} (hok : okB n ns = true) (hok2 : okB m ms = true) : okB (n + m) (ofn (n + m) (bothP n ns ms true)) = true := by
  have e : ∀ a b, a < n + m → b < n + m → lt (ofn (n + m) (bothP n ns ms true)) a b = bothP n ns ms true a b := fun a b ha hb => ofn_lt _ ha hb
  have key : ∀ a b, a < n + m → b < n + m → bothP n ns ms true a b = true → (a < n ∧ b < n ∧ lt ns a b = true) ∨ (n ≤ a ∧ n ≤ b ∧ lt ms (a - n) (b - n) = true) ∨ (a < n ∧ n ≤ b) := fun a b _ _ h => by
    unfold bothP at h
    split at h
    · rename_i hc; exact .inl ⟨hc.1, hc.2, h⟩
    · split at h
      · rename_i hc; exact .inr (.inl ⟨hc.1, hc.2, h⟩)
      · rw [Bool.true_and, decide_eq_true_eq] at h; exact .inr (.inr (by omega))
  have up : ∀ a b, a < n → n ≤ b → bothP n ns ms true a b = true := fun a b h1 h2 => by
    unfold bothP; rw [if_neg (by omega), if_neg (by omega), Bool.true_and, decide_eq_true_eq]; omega
  refine okB_all (ofn_vld _ _).2 fun i hi => ⟨fun j hj k hk => ?_, ?_⟩
  · cases ht : trip (ofn (n + m) (bothP n ns ms true)) i j k
    · rfl
    · simp only [trip, Bool.and_eq_true, Bool.not_eq_true'] at ht
      obtain ⟨h1, h2, h3⟩ := ht
      rw [e _ _ hj hk] at h1
      rw [e _ _ hk hi] at h2
      rw [e _ _ hj hi] at h3
      exfalso
      rcases key _ _ hj hk h1 with ⟨a1, a2, a3⟩ | ⟨a1, a2, a3⟩ | ⟨a1, a2⟩ <;> rcases key _ _ hk hi h2 with ⟨b1, b2, b3⟩ | ⟨b1, b2, b3⟩ | ⟨b1, b2⟩
      · have := okB_tr hok b2 a2 b3 a3
        unfold bothP at h3
        rw [if_pos ⟨a1, b2⟩, this] at h3
        cases h3
      · omega
      · rw [up _ _ a1 b2] at h3; cases h3
      · omega
      · have := okB_tr hok2 (show i - n < m by omega) (show k - n < m by omega) b3 a3
        unfold bothP at h3
        rw [if_neg (by omega), if_pos ⟨a1, b2⟩, this] at h3
        cases h3
      · omega
      · omega
      · rw [up _ _ a1 b2] at h3; cases h3
      · omega
  · rw [e i i hi hi]
    cases h : bothP n ns ms true i i
    · rfl
    · rcases key _ _ hi hi h with ⟨a1, _, a3⟩ | ⟨a1, _, a3⟩ | ⟨a1, a2⟩
      · rw [okB_irr hok a1] at a3; cases a3
      · rw [okB_irr hok2 (show i - n < m by omega)] at a3; cases a3
      · omega
theorem both_okS {n m : Nat} {ns ms : List Nat} (hok : okB n ns = true) (hok2 : okB m ms = true) : okB (n + m) (ofn (n + m) (bothP n ns ms false)) = true := by
  have e : ∀ a b, a < n + m → b < n + m → lt (ofn (n + m) (bothP n ns ms false)) a b = bothP n ns ms false a b := fun a b ha hb => ofn_lt _ ha hb
  have key : ∀ a b, a < n + m → b < n + m → bothP n ns ms false a b = true → (a < n ∧ b < n ∧ lt ns a b = true) ∨ (n ≤ a ∧ n ≤ b ∧ lt ms (a - n) (b - n) = true) := fun a b _ _ h => by
    unfold bothP at h
    split at h
    · rename_i hc; exact .inl ⟨hc.1, hc.2, h⟩
    · split at h
      · rename_i hc; exact .inr ⟨hc.1, hc.2, h⟩
      · cases h
  refine okB_all (ofn_vld _ _).2 fun i hi => ⟨fun j hj k hk => ?_, ?_⟩
  · cases ht : trip (ofn (n + m) (bothP n ns ms false)) i j k
    · rfl
    · simp only [trip, Bool.and_eq_true, Bool.not_eq_true'] at ht
      obtain ⟨h1, h2, h3⟩ := ht
      rw [e _ _ hj hk] at h1
      rw [e _ _ hk hi] at h2
      rw [e _ _ hj hi] at h3
      exfalso
      rcases key _ _ hj hk h1 with ⟨a1, a2, a3⟩ | ⟨a1, a2, a3⟩ <;> rcases key _ _ hk hi h2 with ⟨b1, b2, b3⟩ | ⟨b1, b2, b3⟩
      · have := okB_tr hok b2 a2 b3 a3
        unfold bothP at h3
        rw [if_pos ⟨a1, b2⟩, this] at h3
        cases h3
      · omega
      · omega
      · have := okB_tr hok2 (show i - n < m by omega) (show k - n < m by omega) b3 a3
        unfold bothP at h3
        rw [if_neg (by omega), if_pos ⟨a1, b2⟩, this] at h3
        cases h3
  · rw [e i i hi hi]
    cases h : bothP n ns ms false i i
    · rfl
    · rcases key _ _ hi hi h with ⟨a1, _, a3⟩ | ⟨a1, _, a3⟩
      · rw [okB_irr hok a1] at a3; cases a3
      · rw [okB_irr hok2 (show i - n < m by omega)] at a3; cases a3
theorem sumTo_atB {g : Nat → Nat} {p : Nat} : ∀ {k : Nat}, p < k → g p ≤ sumTo g k
  | 0, h => by omega
  | k + 1, h => by
    show g p ≤ sumTo g k + g k
    by_cases hp : p = k
    · subst hp; omega
    · have := sumTo_atB (g := g) (p := p) (k := k) (by omega)
      omega
theorem may_exB {n : Nat} {ns : List Nat} (hv : Vld n ns) (hok : okB n ns = true) {s : Nat} : ∀ h i, i < n → hgt n ns i ≤ h → s.testBit i = false → ∃ p, p < n ∧ mayO ns s p = true
  | h, i, hi, hh, hs => by
    rcases Classical.em (∃ j, (ns.getD i 0).testBit j = true ∧ s.testBit j = false) with h1 | h1
    · obtain ⟨j, hj1, hj2⟩ := h1
      have hjn : j < n := lt_lt hv.2 hj1
      have hup := hgt_up hok hjn hi hj1
      match h with
      | 0 => omega
      | h + 1 => exact may_exB hv hok h j hjn (by omega) hj2
    · refine ⟨i, hi, mayV_iff.2 ⟨hs, fun j hj => ?_⟩⟩
      cases hq : s.testBit j
      · exact absurd ⟨j, hj, hq⟩ h1
      · rfl
theorem cnt_posB {n : Nat} {ns : List Nat} (hv : Vld n ns) (hok : okB n ns = true) : ∀ f s, mis n s = f → 1 ≤ cnt n (mayO ns) f s
  | 0, s, _ => Nat.le_refl 1
  | f + 1, s, h => by
    have : ∃ i, i < n ∧ s.testBit i = false := by
      rcases Classical.em (∃ i, i < n ∧ s.testBit i = false) with h1 | h1
      · exact h1
      · exfalso
        have := (mis_zero (n := n) (s := s)).2 fun i hi => by
          cases hq : s.testBit i
          · exact absurd ⟨i, hi, hq⟩ h1
          · rfl
        omega
    obtain ⟨i, hi, hs⟩ := this
    obtain ⟨p, hp, hm⟩ := may_exB hv hok _ i hi (Nat.le_refl _) hs
    have h2 := sumTo_atB (g := fun p => if mayO ns s p = true then cnt n (mayO ns) f (s ||| 2 ^ p) else 0) hp
    have h3 := mis_add (mayO_not hm) hp
    have h4 := cnt_posB hv hok f (s ||| 2 ^ p) (by omega)
    simp only [hm, if_true] at h2
    show 1 ≤ sumTo _ n
    omega
theorem rest_posB {n : Nat} {ns : List Nat} (hv : Vld n ns) (hok : okB n ns = true) : 1 ≤ rest n (mayO ns) 0 := cnt_posB hv hok _ 0 rfl
/-- The number of ways grows by a whole quotient. -/
theorem ch_quo (n i : Nat) : ((ch n i * (n + (i + 1)) : Nat) : Int) / ((i + 1 : Nat) : Int) = (ch n (i + 1) : Int) := by
  have h := ch_step n i
  have e : ch n i * (n + (i + 1)) = (i + 1) * ch n (i + 1) := by rw [h, Nat.mul_comm]; rfl
  rw [e, ← Int.natCast_ediv, Nat.mul_div_cancel_left _ (Nat.succ_pos i)]
theorem ch_le : ∀ n i, ch n i ≤ 2 ^ (n + i)
  | 0, i => Nat.pow_pos (by decide)
  | n + 1, 0 => by rw [ch_zero]; exact Nat.pow_pos (by decide)
  | n + 1, i + 1 => by
    have h1 := ch_le (n + 1) i
    have h2 := ch_le n (i + 1)
    rw [ch_succ, show n + 1 + (i + 1) = (n + i + 1) + 1 by omega, Nat.pow_succ]
    rw [show n + 1 + i = n + i + 1 by omega] at h1
    rw [show n + (i + 1) = n + i + 1 by omega] at h2
    omega
theorem ch_pos (n i : Nat) : 1 ≤ ch n i := by
  rcases Nat.eq_zero_or_pos (ch n i) with h | h
  · exfalso
    induction i with
    | zero => rw [ch_zero] at h; cases h
    | succ i ih =>
      have h2 := ch_step n i
      rw [h, Nat.mul_zero] at h2
      rcases Nat.mul_eq_zero.1 h2.symm with h3 | h3
      · omega
      · exact ih h3
  · exact h
end Go.Proofs.Ytmfhmpdpebpijaa
