import Derived.Test.YtkackilhfkicoaaDoorRt
import Derived.Test.YtkackilhfkicoaaDoorRf
import Derived.Test.YtkackilhfkicoaaDoorKb
set_option linter.unusedSimpArgs false
set_option linter.unusedVariables false
set_option linter.unusedSectionVars false
set_option maxRecDepth 20000
namespace Go.Proofs.YtkackilhfkicoaaDoor
/-- Over a list of the ones of which p holds, or over all. -/
theorem sumI_filter (f : Nat → Int) (p : Nat → Bool) : ∀ m, sumI (fun j => f (((List.range m).filter p).getD j 0)) ((List.range m).filter p).length = sumI (fun x => if p x = true then f x else 0) m
  | 0 => rfl
  | m + 1 => by
    rw [List.range_succ, List.filter_append, sumI_s, ← sumI_filter f p m]
    cases hp : p m
    · rw [List.filter_cons, if_neg (by rw [hp]; decide), List.filter_nil, List.append_nil]
      simp
    · rw [List.filter_cons, if_pos hp, List.filter_nil, List.length_append, List.length_singleton, sumI_s, if_pos rfl]
      congr 1
      · exact sumI_congr fun i hi => by rw [List.getD_eq_getElem?_getD, List.getD_eq_getElem?_getD, List.getElem?_append_left hi]
      · rw [List.getD_eq_getElem?_getD, List.getElem?_append_right (Nat.le_refl _), Nat.sub_self]; rfl
theorem sumI_ext {f : Nat → Int} {a : Nat} : ∀ {b : Nat}, a ≤ b → (∀ i, a ≤ i → i < b → f i = 0) → sumI f b = sumI f a
  | 0, h, _ => by rw [show a = 0 by omega]
  | b + 1, h, h0 => by
    by_cases e : a = b + 1
    · rw [e]
    · rw [sumI_s, h0 b (by omega) (by omega), sumI_ext (b := b) (by omega) fun i h1 h2 => h0 i h1 (by omega), Int.add_zero]
section
variable {n : Nat} {ns : List Nat}
theorem mbs_sum {s : Nat} (hs : s < 2 ^ n) (hn : n ≤ 10) (f : Nat → Int) : sumI (fun j => f ((mbs s).getD j 0)) (mbs s).length = sumI (fun x => if s.testBit x = true then f x else 0) n := by
  unfold mbs
  rw [sumI_filter, sumI_ext hn]
  intro i h1 _
  rw [Nat.testBit_lt_two_pow (Nat.lt_of_lt_of_le hs (Nat.pow_le_pow_right (n := 2) (by decide) h1))]; rfl
theorem euT_bn (l : List Nat) : ∀ m, m ≤ 11 → euT l (m + 1) = -(l.getD 0 0 : Int) + sumI (fun k => (l.getD (k + 1) 0 : Int) * bn (-1) k) m
  | 0, _ => by
    show (0 : Int) - (l.getD 0 0 : Nat) = -(l.getD 0 0 : Int) + 0
    omega
  | m + 1, hm => by
    have ih := euT_bn l m (by omega)
    rw [sumI_s, ← Int.add_assoc, ← ih]
    show (if (m + 1) % 2 = 1 then euT l (m + 1) + (l.getD (m + 1) 0 : Nat) else euT l (m + 1) - (l.getD (m + 1) 0 : Nat)) = _
    have hb : ∀ k, k < 11 → bn (-1) k = if (k + 1) % 2 = 1 then 1 else -1 := by decide
    rw [hb m (by omega)]
    split <;> simp <;> omega
theorem eu_ends (hn : n ≤ 10) (hok : okB n ns = true) : euN n ns = sumI (fun b => zsE n ns (-1) b) n - 1 := by
  obtain ⟨h1, h2⟩ := cnt_len (n := n) (ns := ns)
  have e1 := ztN_ends hn hok 1
  rw [show (1 : Int) - 2 = -1 from rfl] at e1
  rw [← e1]
  unfold euN ztN ztT
  have e2 : (cntC n ns (2 ^ n)).length = ((cntC n ns (2 ^ n)).length - 1) + 1 := by omega
  have e3 : (cntC n ns (2 ^ n)).getD 0 0 = 1 := by
    unfold cntC
    rw [cntL_len] at h1
    rw [List.getD_eq_getElem?_getD, List.getElem?_map, List.getElem?_range h1]
    exact chC_zero
  rw [e2, euT_bn _ _ (by omega), e3, show (1 : Int) - 2 = -1 from rfl]
  simp only [Nat.add_sub_cancel]
  omega
def bwS (n : Nat) (ns : List Nat) (a b : Nat) : Nat := bs (fun c => lt ns a c && lt ns c b) n
theorem bwS_lt (n : Nat) (ns : List Nat) (a b : Nat) : bwS n ns a b < 2 ^ n := bs_lt _ _
theorem bwS_bit {a b c : Nat} : (bwS n ns a b).testBit c = true ↔ c < n ∧ lt ns a c = true ∧ lt ns c b = true := by
  unfold bwS; rw [bs_bit, Bool.and_eq_true, decide_eq_true_eq, Bool.and_eq_true]
theorem mu_hall (hn : n ≤ 10) (hv : Vld n ns) (hok : okB n ns = true) {a b : Nat} (ha : a < n) (hb : b < n) (hab : lt ns a b = true)
    (hq : okB (mbs (bwS n ns a b)).length (ofn (mbs (bwS n ns a b)).length (plP ns (mbs (bwS n ns a b)))) = true) :
    mu n (lt ns) a b = euN (mbs (bwS n ns a b)).length (ofn (mbs (bwS n ns a b)).length (plP ns (mbs (bwS n ns a b)))) := by
  have hS : StO n (lt ns) := ⟨fun i hi => okB_irr hok hi, fun i j k hi hj hk h1 h2 => okB_tr hok hk hj h2 h1⟩
  have hs := bwS_lt n ns a b
  have hs2 : bwS n ns a b < 1024 := Nat.lt_of_lt_of_le hs (p2_10 hn)
  have hml := mbs_len (bwS n ns a b)
  have hmem : ∀ i, i < (mbs (bwS n ns a b)).length → (mbs (bwS n ns a b)).getD i 0 < n ∧ lt ns a ((mbs (bwS n ns a b)).getD i 0) = true ∧ lt ns ((mbs (bwS n ns a b)).getD i 0) b = true := fun i hi => by
    have hm : (mbs (bwS n ns a b)).getD i 0 ∈ mbs (bwS n ns a b) := by rw [List.getD_eq_getElem?_getD, List.getElem?_eq_getElem hi]; exact List.getElem_mem _
    exact bwS_bit.1 ((mbs_mem hs2).1 hm)
  have hinj : ∀ i j, i < (mbs (bwS n ns a b)).length → j < (mbs (bwS n ns a b)).length → (mbs (bwS n ns a b)).getD i 0 = (mbs (bwS n ns a b)).getD j 0 → i = j := fun i j hi hj e => by
    have hp : (mbs (bwS n ns a b)).Pairwise (· < ·) := List.Pairwise.filter _ List.pairwise_lt_range
    rw [List.pairwise_iff_getElem] at hp
    rw [List.getD_eq_getElem?_getD, List.getElem?_eq_getElem hi, List.getD_eq_getElem?_getD, List.getElem?_eq_getElem hj] at e
    simp only [Option.getD_some] at e
    rcases Nat.lt_trichotomy i j with h | h | h
    · have := hp i j hi hj h; omega
    · exact h
    · have := hp j i hj hi h; omega
  have hsum := fun f => mbs_sum hs hn f
  have hbit := fun c => bwS_bit (n := n) (ns := ns) (a := a) (b := b) (c := c)
  generalize bwS n ns a b = s at *
  generalize mbs s = I at *
  rw [eu_ends (by omega) hq]
  have hQ : StO I.length (lt (ofn I.length (plP ns I))) := ⟨fun i hi => okB_irr hq hi, fun i j k hi hj hk h1 h2 => okB_tr hq hk hj h2 h1⟩
  have hzt : ∀ i j, i < I.length → j < I.length → zt (lt (ofn I.length (plP ns I))) i j = zt (lt ns) (I.getD i 0) (I.getD j 0) := fun i j hi hj => by
    unfold zt
    rw [ofn_lt _ hi hj]
    unfold plP
    by_cases e : i = j
    · subst e; rw [if_pos (.inl rfl), if_pos (.inl rfl)]
    · by_cases h : lt ns (I.getD i 0) (I.getD j 0) = true
      · rw [if_pos (.inr h), if_pos (.inr h)]
      · rw [if_neg (fun q => q.elim e h), if_neg (fun q => q.elim (fun q => e (hinj i j hi hj q)) h)]
  have key : ∀ y, y < n → lt ns a y = true → (y = b ∨ lt ns y b = true) → sumI (fun x => if s.testBit x = true then mu n (lt ns) a x * zt (lt ns) x y else 0) n = -1 - (if y = b then mu n (lt ns) a b else 0) := fun y hy hay hyb => by
    have h1 := mu_zt hS ha hy
    have hya : a ≠ y := fun e => by subst e; rw [okB_irr hok ha] at hay; cases hay
    have hba : a ≠ b := fun e => by subst e; rw [okB_irr hok ha] at hab; cases hab
    rw [if_neg hya] at h1
    have h2 : sumI (fun x => mu n (lt ns) a x * zt (lt ns) x y) n = sumI (fun x => (if s.testBit x = true then mu n (lt ns) a x * zt (lt ns) x y else 0) + ((if x = a then 1 else 0) + (if x = b then (if y = b then mu n (lt ns) a b else 0) else 0))) n := sumI_congr fun x hx => by
      by_cases e1 : x = a
      · subst e1
        have : s.testBit x = false := by
          cases hq2 : s.testBit x
          · rfl
          · have := ((hbit x).1 hq2).2.1
            rw [okB_irr hok hx] at this; cases this
        rw [this, if_pos rfl, if_neg hba, mu_eq hS hx hx, if_pos rfl]
        unfold zt
        rw [if_pos (.inr hay)]
        simp
      · rw [if_neg e1, Int.zero_add]
        by_cases e2 : x = b
        · subst e2
          have : s.testBit x = false := by
            cases hq2 : s.testBit x
            · rfl
            · have := ((hbit x).1 hq2).2.2
              rw [okB_irr hok hx] at this; cases this
          rw [this, if_pos rfl, if_neg (by decide), Int.zero_add]
          by_cases e3 : y = x
          · subst e3
            unfold zt
            rw [if_pos (.inl rfl), if_pos rfl, Int.mul_one]
          · rw [if_neg e3]
            have : zt (lt ns) x y = 0 := by
              unfold zt
              rw [if_neg]
              rintro (q | q)
              · exact e3 q.symm
              · have h5 := hyb.resolve_left e3
                have h6 := hS.tr x y x hx hy hx q h5
                rw [okB_irr hok hx] at h6; cases h6
            rw [this, Int.mul_zero]
        · rw [if_neg e2, Int.add_zero]
          cases hq2 : s.testBit x
          · rw [if_neg (by decide)]
            by_cases h5 : lt ns a x = true
            · have : zt (lt ns) x y = 0 := by
                unfold zt
                rw [if_neg]
                rintro q
                have h6 : s.testBit x = true := (hbit x).2 ⟨hx, h5, by
                  rcases q with q | q
                  · subst q; exact hyb.resolve_left e2
                  · rcases hyb with e | h7
                    · subst e; exact q
                    · exact hS.tr x y b hx hy hb q h7⟩
                rw [hq2] at h6; cases h6
              rw [this, Int.mul_zero]
            · rw [mu_off hS ha hx (Ne.symm e1) (Bool.eq_false_iff.2 h5), Int.zero_mul]
          · rw [if_pos rfl]
    rw [h2, sumI_add, sumI_add, sumI_sgl ha fun i _ hi => if_neg hi, if_pos rfl, sumI_sgl hb fun i _ hi => if_neg hi, if_pos rfl] at h1
    omega
  have hG : ∀ i, i < I.length → zsE I.length (ofn I.length (plP ns I)) (-1) i = -mu n (lt ns) a (I.getD i 0) := fun i hi => by
    refine zt_inj hQ (G := fun i => -mu n (lt ns) a (I.getD i 0)) (fun c hc => ?_) hi
    rw [zsE_step (by omega) hq (by omega) (by omega) hc, show (-1 : Int) + 1 = 0 from rfl, zsE_zero]
    obtain ⟨c1, c2, c3⟩ := hmem c hc
    have k := key _ c1 c2 (.inr c3)
    rw [if_neg (fun e => by rw [e, okB_irr hok hb] at c3; cases c3)] at k
    rw [← hsum (fun x => mu n (lt ns) a x * zt (lt ns) x (I.getD c 0))] at k
    rw [sumI_congr (g := fun x => -(mu n (lt ns) a (I.getD x 0) * zt (lt ns) (I.getD x 0) (I.getD c 0))) fun x hx => by rw [hzt x c hx hc, Int.neg_mul], sumI_neg, k]
    omega
  rw [sumI_congr hG, sumI_neg, hsum (fun x => mu n (lt ns) a x)]
  have k := key b hb hab (.inl rfl)
  rw [if_pos rfl] at k
  have e : sumI (fun x => if s.testBit x = true then mu n (lt ns) a x * zt (lt ns) x b else 0) n = sumI (fun x => if s.testBit x = true then mu n (lt ns) a x else 0) n := sumI_congr fun x hx => by
    cases hq2 : s.testBit x
    · rfl
    · rw [if_pos rfl, if_pos rfl]
      unfold zt
      rw [if_pos (.inr ((hbit x).1 hq2).2.2), Int.mul_one]
  rw [e] at k
  omega
end
end Go.Proofs.YtkackilhfkicoaaDoor
