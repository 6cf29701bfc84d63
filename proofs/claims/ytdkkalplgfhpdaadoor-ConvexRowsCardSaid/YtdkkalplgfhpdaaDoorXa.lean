import Derived.Test.YtdkkalplgfhpdaaDoorUe
import Derived.Test.YtdkkalplgfhpdaaDoorWt
import Derived.Test.YtdkkalplgfhpdaaDoorGn
import Derived.Test.YtdkkalplgfhpdaaDoorGl
set_option linter.unusedSimpArgs false
set_option linter.unusedVariables false
set_option linter.unusedSectionVars false
set_option maxRecDepth 20000
namespace Go.Proofs.YtdkkalplgfhpdaaDoor
attribute [local irreducible] QOp aL aC qL
theorem ex_mx {n : Nat} {r : Nat → Nat → Bool} (hi : ∀ i, i < n → r i i = false) (ht : ∀ i j k, i < n → j < n → k < n → r i j = true → r j k = true → r i k = true) {s : Nat → Bool} : ∀ k, k ≤ n → (∃ p, p < k ∧ s p = true) → ∃ p, p < k ∧ s p = true ∧ ∀ q, q < k → s q = true → r p q = false
  | 0, _, ⟨_, h, _⟩ => absurd h (Nat.not_lt_zero _)
  | k + 1, hk, hex => by
    by_cases h : ∃ p, p < k ∧ s p = true
    · obtain ⟨p, hp, hsp, hall⟩ := ex_mx hi ht k (by omega) h
      by_cases h2 : s k = true ∧ r p k = true
      · refine ⟨k, by omega, h2.1, fun q hq hsq => ?_⟩
        by_cases e : q = k
        · subst e; exact hi _ (by omega)
        · have h3 := hall q (by omega) hsq
          cases h4 : r k q with
          | false => rfl
          | true => rw [ht p k q (by omega) (by omega) (by omega) h2.2 h4] at h3; cases h3
      · refine ⟨p, by omega, hsp, fun q hq hsq => ?_⟩
        by_cases e : q = k
        · subst e
          cases h4 : r p q with
          | false => rfl
          | true => exact absurd ⟨hsq, h4⟩ h2
        · exact hall q (by omega) hsq
    · obtain ⟨p, hp, hsp⟩ := hex
      have e : p = k := by
        by_cases e : p = k
        · exact e
        · exact absurd ⟨p, by omega, hsp⟩ h
      subst e
      refine ⟨p, by omega, hsp, fun q hq hsq => ?_⟩
      by_cases e : q = p
      · subst e; exact hi _ (by omega)
      · exact absurd ⟨q, by omega, hsq⟩ h
theorem xa_mem {n : Nat} {ns : List Nat} {s : Nat} : s ∈ idTo n ns (2 ^ n) ↔ s < 2 ^ n ∧ idl n ns s = true := by
  unfold idTo; rw [List.mem_filter, List.mem_range]
theorem xa_iff {n : Nat} {ns : List Nat} {s : Nat} : idl n ns s = true ↔ ∀ b, b < n → s.testBit b = true → ∀ a, lt ns a b = true → s.testBit a = true := idl_iff
theorem xa_le {n : Nat} {ns : List Nat} (hv : Vld n ns) {a b : Nat} (hb : b < n) (h : lt ns a b = true) : a < n := by
  have h1 : ns.getD b 0 < 2 ^ n := by
    by_cases hl : b < ns.length
    · rw [List.getD_eq_getElem?_getD, List.getElem?_eq_getElem hl]; exact hv.2 _ (List.getElem_mem hl)
    · have := hv.1; omega
  exact bit_small h1 h
theorem id_less {n : Nat} {ns : List Nat} (hv : Vld n ns) (hok : okB n ns = true) {s : Nat} (hs : s < 2 ^ n) (hi : idl n ns s = true) {p : Nat} (hp : p < n) (hsp : s.testBit p = true) (hmx : ∀ q, q < n → s.testBit q = true → lt ns p q = false) : idl n ns (s - 2 ^ p) = true := by
  rw [xa_iff] at hi ⊢
  intro b hb h1 a h2
  rw [sub_bit hsp] at h1 ⊢
  simp only [Bool.and_eq_true, Bool.not_eq_true', decide_eq_false_iff_not] at h1 ⊢
  refine ⟨hi b hb h1.1 a h2, fun e => ?_⟩
  subst e
  rw [hmx b hb h1.1] at h2
  cases h2
theorem id_wf {n : Nat} {ns : List Nat} (hn : n ≤ 10) (hv : Vld n ns) (hok : okB n ns = true) : Wf n (idTo n ns (2 ^ n)) where
  hn := hn
  fm := ⟨(List.pairwise_lt_range).filter _, fun x hx => (xa_mem.1 hx).1⟩
  ac := by
    refine ⟨fun x hx => (xa_mem.1 hx).1, xa_mem.2 ⟨p2_pos n, xa_iff.2 fun b _ h => by rw [Nat.zero_testBit] at h; cases h⟩, fun s hs h0 => ?_, fun s hs t ht => ?_⟩
    · obtain ⟨h1, h2⟩ := xa_mem.1 hs
      obtain ⟨p, hp, hsp, hmx⟩ := ex_mx (n := n) (r := fun a b => lt ns a b) (fun i hi => okB_irr hok hi) (fun i j k hi hj hk h3 h4 => okB_tr hok hk hj h4 h3) (s := s.testBit) n (Nat.le_refl _) (by
        obtain ⟨i, hi⟩ := Nat.exists_testBit_of_ne_zero h0
        exact ⟨i, bit_small h1 hi, hi⟩)
      exact ⟨p, hsp, xa_mem.2 ⟨Nat.lt_of_le_of_lt (Nat.sub_le _ _) h1, id_less hv hok h1 h2 hp hsp hmx⟩⟩
    · obtain ⟨h1, h2⟩ := xa_mem.1 hs
      obtain ⟨h3, h4⟩ := xa_mem.1 ht
      refine xa_mem.2 ⟨Nat.or_lt_two_pow h1 h3, ?_⟩
      rw [xa_iff] at h2 h4 ⊢
      intro b hb h5 a h6
      rw [Nat.testBit_or, Bool.or_eq_true] at h5 ⊢
      rcases h5 with h5 | h5
      · exact .inl (h2 b hb h5 a h6)
      · exact .inr (h4 b hb h5 a h6)
  top := by
    have := p2_pos n
    refine xa_mem.2 ⟨by omega, xa_iff.2 fun b hb _ a h => ?_⟩
    rw [Nat.testBit_two_pow_sub_one, decide_eq_true (xa_le hv hb h)]
/-! Ends. -/
theorem en_mem {n : Nat} {ns : List Nat} {x : Nat} : x ∈ enF n (idTo n ns (2 ^ n)) ↔ ∃ s t, (s < 2 ^ n ∧ idl n ns s = true) ∧ (t < 2 ^ n ∧ idl n ns t = true) ∧ ∀ i, x.testBit i = (s.testBit i || (decide (i < n) && !t.testBit i)) := by
  have hb : ∀ s t i : Nat, (s ||| ndiff (2 ^ n - 1) t).testBit i = (s.testBit i || (decide (i < n) && !t.testBit i)) := fun s t i => by
    rw [Nat.testBit_or, testBit_ndiff, Nat.testBit_two_pow_sub_one]
  unfold enF efF
  rw [List.mem_filter, List.mem_range, decide_eq_true_eq, enT_mem]
  constructor
  · rintro ⟨_, s, hs, t, ht, rfl⟩
    exact ⟨s, t, xa_mem.1 hs, xa_mem.1 ht, hb s t⟩
  · rintro ⟨s, t, hs, ht, h⟩
    refine ⟨Nat.lt_pow_two_of_testBit _ fun i hi => ?_, s, xa_mem.2 hs, t, xa_mem.2 ht, Nat.eq_of_testBit_eq fun i => by rw [hb, h]⟩
    rw [h, decide_eq_false (by omega), Nat.testBit_lt_two_pow (Nat.lt_of_lt_of_le hs.1 (Nat.pow_le_pow_right (by decide) hi))]
    rfl
theorem fl_bit {n : Nat} (p : Nat → Bool) : ∃ s, s < 2 ^ n ∧ ∀ i, s.testBit i = (decide (i < n) && p i) := by
  induction n with
  | zero => exact ⟨0, by decide, fun i => by simp⟩
  | succ n ih =>
    obtain ⟨s, hs, h⟩ := ih
    have hsn : s.testBit n = false := Nat.testBit_lt_two_pow hs
    cases hp : p n with
    | true =>
      refine ⟨s ||| 2 ^ n, Nat.or_lt_two_pow (Nat.lt_of_lt_of_le hs (Nat.pow_le_pow_right (by decide) (by omega))) (Nat.pow_lt_pow_right (by decide) (by omega)), fun i => ?_⟩
      rw [Nat.testBit_or, h, Nat.testBit_two_pow]
      by_cases e : n = i
      · subst e; simp [hp]
      · have : decide (i < n) = decide (i < n + 1) := by rw [decide_eq_decide]; omega
        rw [this, decide_eq_false e, Bool.or_false]
    | false =>
      refine ⟨s, Nat.lt_of_lt_of_le hs (Nat.pow_le_pow_right (by decide) (by omega)), fun i => ?_⟩
      rw [h]
      by_cases e : n = i
      · subst e; simp [hp]
      · have : decide (i < n) = decide (i < n + 1) := by rw [decide_eq_decide]; omega
        rw [this]
theorem en_fm (n : Nat) (ns : List Nat) : Fml n (enF n (idTo n ns (2 ^ n))) := ⟨(List.pairwise_lt_range).filter _, fun x hx => by
  unfold enF efF at hx
  exact List.mem_range.1 (List.mem_filter.1 hx).1⟩
theorem en_acc {n : Nat} {ns : List Nat} (hv : Vld n ns) (hok : okB n ns = true) : accB n (enF n (idTo n ns (2 ^ n))) = true := by
  have hlt : ∀ x ∈ enF n (idTo n ns (2 ^ n)), x < 2 ^ n := fun x hx => by
    unfold enF efF at hx
    exact List.mem_range.1 (List.mem_filter.1 hx).1
  have hirr := fun i (hi : i < n) => okB_irr hok hi
  have htr := fun i j k (hi : i < n) (hj : j < n) (hk : k < n) (h3 : lt ns i j = true) (h4 : lt ns j k = true) => okB_tr hok hk hj h4 h3
  rw [accB_iff hlt]
  refine ⟨hlt, ?_, fun x hx h0 => ?_, fun x hx y hy => ?_⟩
  · have := p2_pos n
    refine en_mem.2 ⟨0, 2 ^ n - 1, ⟨p2_pos n, xa_iff.2 fun b _ h => by rw [Nat.zero_testBit] at h; cases h⟩, ⟨by omega, xa_iff.2 fun b hb _ a h => ?_⟩, fun i => ?_⟩
    · rw [Nat.testBit_two_pow_sub_one, decide_eq_true (xa_le hv hb h)]
    · rw [Nat.zero_testBit, Nat.testBit_two_pow_sub_one]; cases decide (i < n) <;> rfl
  · obtain ⟨s, t, ⟨hs, hsi⟩, ⟨ht, hti⟩, hxb⟩ := en_mem.1 hx
    rw [xa_iff] at hsi hti
    by_cases hA : ∃ p, p < n ∧ (s.testBit p && t.testBit p) = true
    · obtain ⟨p, hp, hsp, hmx⟩ := ex_mx (n := n) (r := fun a b => lt ns a b) hirr htr (s := fun p => s.testBit p && t.testBit p) n (Nat.le_refl _) hA
      rw [Bool.and_eq_true] at hsp
      have hxp : x.testBit p = true := by rw [hxb, hsp.1, Bool.true_or]
      obtain ⟨s', hs', hb'⟩ := fl_bit (n := n) fun i => s.testBit i && !(decide (i = p) || lt ns p i)
      refine ⟨p, hxp, en_mem.2 ⟨s', t, ⟨hs', xa_iff.2 fun b hb h1 a h2 => ?_⟩, ⟨ht, xa_iff.2 hti⟩, fun i => ?_⟩⟩
      · have han := xa_le hv hb h2
        rw [hb'] at h1 ⊢
        simp only [Bool.and_eq_true, decide_eq_true_eq, Bool.not_eq_true', Bool.or_eq_false_iff, decide_eq_false_iff_not] at h1 ⊢
        refine ⟨han, hsi b hb h1.2.1 a h2, fun e => ?_, ?_⟩
        · subst e; rw [h1.2.2.2] at h2; cases h2
        · cases h3 : lt ns p a with
          | false => rfl
          | true => have h4 := htr p a b hp han hb h3 h2; rw [h1.2.2.2] at h4; cases h4
      · rw [sub_bit hxp, hxb, hb']
        by_cases hin : i < n
        · rw [decide_eq_true hin, Bool.true_and, Bool.true_and]
          by_cases e : i = p
          · subst e; simp [hsp.2]
          · rw [decide_eq_false e]
            have h5 := hmx i hin
            cases h6 : s.testBit i <;> cases h7 : t.testBit i <;> cases h8 : lt ns p i <;> simp_all
        · have h6 : s.testBit i = false := Nat.testBit_lt_two_pow (Nat.lt_of_lt_of_le hs (Nat.pow_le_pow_right (by decide) (by omega)))
          rw [decide_eq_false hin, h6]; rfl
    · have hA' : ∀ i, i < n → s.testBit i = true → t.testBit i = false := fun i hi h => by
        cases h2 : t.testBit i with
        | false => rfl
        | true => exact absurd ⟨i, hi, by rw [h, h2]; rfl⟩ hA
      have hxn : ∀ i, x.testBit i = (decide (i < n) && !t.testBit i) := fun i => by
        rw [hxb]
        by_cases hin : i < n
        · have := hA' i hin
          cases h6 : s.testBit i <;> cases h7 : t.testBit i <;> simp_all
        · have h6 : s.testBit i = false := Nat.testBit_lt_two_pow (Nat.lt_of_lt_of_le hs (Nat.pow_le_pow_right (by decide) (by omega)))
          rw [decide_eq_false hin, h6]; rfl
      obtain ⟨p, hp, hsp, hmx⟩ := ex_mx (n := n) (r := fun a b => lt ns b a) hirr (fun i j k hi hj hk h3 h4 => htr k j i hk hj hi h4 h3) (s := fun p => !t.testBit p) n (Nat.le_refl _) (by
        obtain ⟨i, hi⟩ := Nat.exists_testBit_of_ne_zero h0
        rw [hxn, Bool.and_eq_true, decide_eq_true_eq] at hi
        exact ⟨i, hi.1, hi.2⟩)
      have hxp : x.testBit p = true := by rw [hxn, hsp, decide_eq_true hp]; rfl
      obtain ⟨t', ht', hb'⟩ := fl_bit (n := n) fun i => t.testBit i || decide (i = p)
      have := p2_pos n
      refine ⟨p, hxp, en_mem.2 ⟨0, t', ⟨this, xa_iff.2 fun b _ h => by rw [Nat.zero_testBit] at h; cases h⟩, ⟨ht', xa_iff.2 fun b hb h1 a h2 => ?_⟩, fun i => ?_⟩⟩
      · have han := xa_le hv hb h2
        rw [hb'] at h1 ⊢
        simp only [Bool.and_eq_true, decide_eq_true_eq, Bool.or_eq_true] at h1 ⊢
        refine ⟨han, .inl ?_⟩
        rcases h1.2 with h1 | rfl
        · exact hti b hb h1 a h2
        · have h3 := hmx a han
          cases h4 : t.testBit a with
          | true => rfl
          | false => rw [h4] at h3; have h5 := h3 rfl; rw [h5] at h2; cases h2
      · rw [sub_bit hxp, hxn, hb', Nat.zero_testBit]
        by_cases hin : i < n
        · rw [decide_eq_true hin]; cases t.testBit i <;> simp
        · rw [decide_eq_false hin]; rfl
  · obtain ⟨s, t, ⟨hs, hsi⟩, ⟨ht, hti⟩, hxb⟩ := en_mem.1 hx
    obtain ⟨s2, t2, ⟨hs2, hsi2⟩, ⟨ht2, hti2⟩, hxb2⟩ := en_mem.1 hy
    rw [xa_iff] at hsi hti hsi2 hti2
    refine en_mem.2 ⟨s ||| s2, t &&& t2, ⟨Nat.or_lt_two_pow hs hs2, xa_iff.2 fun b hb h1 a h2 => ?_⟩, ⟨Nat.lt_of_le_of_lt Nat.and_le_left ht, xa_iff.2 fun b hb h1 a h2 => ?_⟩, fun i => ?_⟩
    · rw [Nat.testBit_or, Bool.or_eq_true] at h1 ⊢
      rcases h1 with h1 | h1
      · exact .inl (hsi b hb h1 a h2)
      · exact .inr (hsi2 b hb h1 a h2)
    · rw [Nat.testBit_and, Bool.and_eq_true] at h1 ⊢
      exact ⟨hti b hb h1.1 a h2, hti2 b hb h1.2 a h2⟩
    · rw [Nat.testBit_or, hxb, hxb2, Nat.testBit_or, Nat.testBit_and]
      cases s.testBit i <;> cases s2.testBit i <;> cases t.testBit i <;> cases t2.testBit i <;> cases decide (i < n) <;> rfl
theorem id_acc {n : Nat} {ns : List Nat} (hn : n ≤ 10) (hv : Vld n ns) (hok : okB n ns = true) : accB n (idTo n ns (2 ^ n)) = true := (accB_iff (id_wf hn hv hok).fm.lt).2 (id_wf hn hv hok).ac
/-! Ways from one set to another. -/
def PF (n : Nat) (ns : List Nat) : Nat → Nat → Nat → Nat
  | 0, s, t => if s = t then 1 else 0
  | f + 1, s, t => sumTo (fun p => if mayO ns s p = true then PF n ns f (s ||| 2 ^ p) t else 0) n
theorem PF_s (n : Nat) (ns : List Nat) (f s t : Nat) : PF n ns (f + 1) s t = sumTo (fun p => if mayO ns s p = true then PF n ns f (s ||| 2 ^ p) t else 0) n := rfl
theorem sm_sw (g : Nat → Nat → Nat) (m : Nat) : ∀ k, sumTo (fun i => sumTo (fun j => g i j) m) k = sumTo (fun j => sumTo (fun i => g i j) k) m
  | 0 => (sumTo_zero fun _ _ => rfl).symm
  | k + 1 => by
    show sumTo (fun i => sumTo (fun j => g i j) m) k + sumTo (fun j => g k j) m = sumTo (fun j => sumTo (fun i => g i j) k + g k j) m
    rw [sm_sw g m k, sumTo_add]
theorem sm_if {c : Bool} (g : Nat → Nat) (k : Nat) : (if c = true then sumTo g k else 0) = sumTo (fun i => if c = true then g i else 0) k := by
  cases c with
  | true => rfl
  | false => exact (sumTo_zero fun _ _ => rfl).symm
theorem or_sub {s p : Nat} (h : s.testBit p = false) : (s ||| 2 ^ p) - 2 ^ p = s := by
  have h1 : (s ||| 2 ^ p).testBit p = true := by rw [Nat.testBit_or, Nat.testBit_two_pow_self, Bool.or_true]
  apply Nat.eq_of_testBit_eq
  intro i
  rw [sub_bit h1, Nat.testBit_or, Nat.testBit_two_pow]
  by_cases e : i = p
  · subst e; simp [h]
  · have e' : ¬p = i := fun h => e h.symm
    rw [decide_eq_false e, decide_eq_false e', Bool.or_false, Bool.not_false, Bool.and_true]
theorem sub_or {t p : Nat} (h : t.testBit p = true) : (t - 2 ^ p) ||| 2 ^ p = t := by
  apply Nat.eq_of_testBit_eq
  intro i
  rw [Nat.testBit_or, sub_bit h, Nat.testBit_two_pow]
  by_cases e : i = p
  · subst e; simp [h]
  · have e' : ¬p = i := fun h => e h.symm
    rw [decide_eq_false e, decide_eq_false e', Bool.or_false, Bool.not_false, Bool.and_true]
theorem PF_last (n : Nat) (ns : List Nat) : ∀ f s t, PF n ns (f + 1) s t = sumTo (fun q => if (t.testBit q && mayO ns (t - 2 ^ q) q) = true then PF n ns f s (t - 2 ^ q) else 0) n
  | 0, s, t => by
    rw [PF_s]
    refine sumTo_congr fun p _ => ?_
    unfold PF
    by_cases h1 : mayO ns s p = true ∧ s ||| 2 ^ p = t
    · have hn := mayO_not h1.1
      have e : t - 2 ^ p = s := by rw [← h1.2, or_sub hn]
      have hb : t.testBit p = true := by rw [← h1.2, Nat.testBit_or, Nat.testBit_two_pow_self, Bool.or_true]
      rw [if_pos h1.1, if_pos h1.2, e, hb, h1.1, if_pos rfl]; rfl
    · have hl : (if mayO ns s p = true then (if s ||| 2 ^ p = t then 1 else 0) else 0) = 0 := by
        by_cases h2 : mayO ns s p = true
        · rw [if_pos h2, if_neg fun h3 => h1 ⟨h2, h3⟩]
        · rw [if_neg h2]
      rw [hl]
      symm
      by_cases h2 : (t.testBit p && mayO ns (t - 2 ^ p) p) = true
      · rw [if_pos h2]
        rw [Bool.and_eq_true] at h2
        refine if_neg fun h3 => h1 ?_
        subst h3
        exact ⟨h2.2, sub_or h2.1⟩
      · rw [if_neg h2]
  | f + 1, s, t => by
    rw [PF_s]
    have e1 : ∀ p, (if mayO ns s p = true then PF n ns (f + 1) (s ||| 2 ^ p) t else 0) = sumTo (fun q => if (t.testBit q && mayO ns (t - 2 ^ q) q) = true then (if mayO ns s p = true then PF n ns f (s ||| 2 ^ p) (t - 2 ^ q) else 0) else 0) n := fun p => by
      rw [PF_last n ns f (s ||| 2 ^ p) t, sm_if]
      refine sumTo_congr fun q _ => ?_
      cases mayO ns s p <;> cases t.testBit q && mayO ns (t - 2 ^ q) q <;> rfl
    have e2 : sumTo (fun p => if mayO ns s p = true then PF n ns (f + 1) (s ||| 2 ^ p) t else 0) n = sumTo (fun p => sumTo (fun q => if (t.testBit q && mayO ns (t - 2 ^ q) q) = true then (if mayO ns s p = true then PF n ns f (s ||| 2 ^ p) (t - 2 ^ q) else 0) else 0) n) n := sumTo_congr fun p _ => e1 p
    rw [e2, sm_sw]
    refine sumTo_congr fun q _ => ?_
    rw [PF_s, sm_if]
theorem may_id {n : Nat} {ns : List Nat} {s p : Nat} (hp : p < n) (hi : idl n ns s = true) (hm : mayO ns s p = true) : idl n ns (s ||| 2 ^ p) = true := by
  rw [xa_iff] at hi ⊢
  simp only [mayO, Bool.and_eq_true] at hm
  have h1 := sub_iff.1 hm.2
  intro b hb h2 a h3
  rw [Nat.testBit_or, Nat.testBit_two_pow, Bool.or_eq_true, decide_eq_true_eq] at h2
  rw [Nat.testBit_or, Bool.or_eq_true]
  rcases h2 with h2 | rfl
  · exact .inl (hi b hb h2 a h3)
  · exact .inl (h1 a h3)
theorem PF_zero {n : Nat} {ns : List Nat} {u : Nat} (hu : idl n ns u = false) : ∀ f s, idl n ns s = true → PF n ns f s u = 0
  | 0, s, hs => by
    unfold PF
    refine if_neg fun e => ?_
    rw [e, hu] at hs; cases hs
  | f + 1, s, hs => by
    rw [PF_s]
    refine sumTo_zero fun p hp => ?_
    split
    · rename_i hm
      exact PF_zero hu f _ (may_id hp hs hm)
    · rfl
theorem cnt_PF {n : Nat} {ns : List Nat} : ∀ f s, s < 2 ^ n → mis n s = f → cnt n (mayO ns) f s = PF n ns f s (2 ^ n - 1)
  | 0, s, hs, h => by
    unfold PF
    rw [if_pos ((mis_full hs).1 h)]
    rfl
  | f + 1, s, hs, h => by
    rw [PF_s]
    refine sumTo_congr fun p hp => ?_
    by_cases hm : mayO ns s p = true
    · have h2 := mis_add (mayO_not hm) hp
      rw [if_pos hm, if_pos hm]
      exact cnt_PF f _ (Nat.or_lt_two_pow hs (Nat.pow_lt_pow_right (by decide) hp)) (by omega)
    · rw [if_neg hm, if_neg hm]
theorem wy_PF {n : Nat} {ns : List Nat} (hn : n ≤ 10) (hv : Vld n ns) (hok : okB n ns = true) : ∀ f t, t ∈ idTo n ns (2 ^ n) → mis n t + f = n → wyN n (idTo n ns (2 ^ n)) t = PF n ns f 0 t
  | 0, t, ht, h => by
    have e : t = 0 := by
      by_cases e : t = 0
      · exact e
      · exfalso
        obtain ⟨p, hp, h2⟩ := (id_wf hn hv hok).ac.less t ht e
        have hpn := bit_small (xa_mem.1 ht).1 hp
        have h3 := mis_add (s := t - 2 ^ p) (p := p) (by rw [sub_bit hp]; simp) hpn
        rw [sub_or hp] at h3
        have := mis_le n (t - 2 ^ p)
        omega
    subst e
    rw [wyN_eq, if_pos rfl]
    rfl
  | f + 1, t, ht, h => by
    have h0 : t ≠ 0 := fun e => by rw [e, mis_nought] at h; omega
    rw [wyN_eq, if_neg h0, if_pos ht, PF_last]
    refine sumTo_congr fun p hp => ?_
    by_cases hb : t.testBit p = true
    · rw [if_pos hb, hb, Bool.true_and]
      have hlt : t - 2 ^ p < 2 ^ n := Nat.lt_of_le_of_lt (Nat.sub_le _ _) (xa_mem.1 ht).1
      have h3 := mis_add (s := t - 2 ^ p) (p := p) (by rw [sub_bit hb]; simp) hp
      rw [sub_or hb] at h3
      cases hi : idl n ns (t - 2 ^ p) with
      | true =>
        have hm : mayO ns (t - 2 ^ p) p = true := by
          simp only [mayO, Bool.and_eq_true]
          refine ⟨by rw [sub_bit hb]; simp, sub_iff.2 fun a ha => ?_⟩
          rw [sub_bit hb]
          have h5 := xa_iff.1 (xa_mem.1 ht).2 p hp hb a ha
          rw [h5]
          by_cases e : a = p
          · subst e; have := okB_irr hok hp; unfold lt at this; rw [this] at ha; cases ha
          · simp [e]
        rw [if_pos hm]
        exact wy_PF hn hv hok f _ (xa_mem.2 ⟨hlt, hi⟩) (by omega)
      | false =>
        rw [PF_zero hi f 0 (xa_mem.1 (id_wf hn hv hok).ac.nil).2, ite_self, wyN_eq, if_neg, if_neg]
        · intro h6; rw [(xa_mem.1 h6).2] at hi; cases hi
        · intro h6; rw [h6, (xa_mem.1 (id_wf hn hv hok).ac.nil).2] at hi; cases hi
    · rw [if_neg hb]
      rw [if_neg]
      intro h6; rw [Bool.and_eq_true] at h6; exact hb h6.1
theorem words_rows {n : Nat} {ns : List Nat} (hn : n ≤ 10) (hv : Vld n ns) (hok : okB n ns = true) : wyN n (idTo n ns (2 ^ n)) (2 ^ n - 1) = rest n (mayO ns) 0 := by
  have hp := p2_pos n
  rw [rest_nought, cnt_PF n 0 hp (mis_nought n), wy_PF hn hv hok n _ (id_wf hn hv hok).top]
  have := (mis_full (n := n) (s := 2 ^ n - 1) (by omega)).2 rfl
  omega
end Go.Proofs.YtdkkalplgfhpdaaDoor
