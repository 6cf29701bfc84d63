import Derived.Test.YtgojkabjgagjcaaQg
import Derived.Test.YtgojkabjgagjcaaHr
import Derived.Test.YtgojkabjgagjcaaEngZf
import Derived.Test.YtgojkabjgagjcaaHu
import Derived.Test.YtgojkabjgagjcaaGd
import Derived.Test.YtgojkabjgagjcaaEngZd
import Derived.Test.YtgojkabjgagjcaaEngT
import Derived.Test.YtgojkabjgagjcaaIp
import Derived.Test.YtgojkabjgagjcaaCf
import Derived.Test.YtgojkabjgagjcaaEs
set_option linter.unusedSimpArgs false
set_option linter.unusedVariables false
set_option linter.unusedSectionVars false
set_option maxRecDepth 20000
namespace Go.Proofs.Ytgojkabjgagjcaa
attribute [local irreducible] QOp aL aC qL
theorem nd_bit (m k i : Nat) : (ndiff m k).testBit i = (m.testBit i && !k.testBit i) := by
  unfold ndiff
  rw [Nat.testBit_xor, Nat.testBit_and]
  cases m.testBit i <;> cases k.testBit i <;> rfl
/-- What each point is told to be below. -/
def nxT (ps : List (Nat × Nat)) (n : Nat) : Nat → List Nat
  | 0 => List.replicate n 0
  | k + 1 => (nxT ps n k).set (ps.getD k (0, 0)).1 ((nxT ps n k).getD (ps.getD k (0, 0)).1 0 ||| 2 ^ (ps.getD k (0, 0)).2)
theorem nxT_len (ps : List (Nat × Nat)) (n : Nat) : ∀ k, (nxT ps n k).length = n
  | 0 => List.length_replicate ..
  | k + 1 => by rw [nxT, List.length_set]; exact nxT_len ps n k
theorem nxT_bit {ps : List (Nat × Nat)} {n : Nat} (hp : ∀ k, k < ps.length → (ps.getD k (0, 0)).1 < n) {a b : Nat} : ∀ k, k ≤ ps.length → (((nxT ps n k).getD a 0).testBit b = true ↔ ∃ i, i < k ∧ ps.getD i (0, 0) = (a, b))
  | 0, _ => by
    have : (nxT ps n 0).getD a 0 = 0 := by
      show (List.replicate n 0).getD a 0 = 0
      rw [List.getD_eq_getElem?_getD, List.getElem?_replicate]
      split <;> rfl
    rw [this, Nat.zero_testBit]
    exact ⟨fun h => Bool.noConfusion h, fun ⟨i, hi, _⟩ => absurd hi (Nat.not_lt_zero i)⟩
  | k + 1, hk => by
    have ih := nxT_bit (a := a) (b := b) hp k (by omega)
    have h1 := hp k (by omega)
    rw [nxT, getD_set]
    by_cases e : (ps.getD k (0, 0)).1 = a
    · rw [if_pos ⟨e, by rw [nxT_len]; exact h1⟩, e, Nat.testBit_or, Bool.or_eq_true, ih, Nat.testBit_two_pow, decide_eq_true_eq]
      constructor
      · rintro (⟨i, hi, h2⟩ | h2)
        · exact ⟨i, by omega, h2⟩
        · exact ⟨k, by omega, Prod.ext e h2⟩
      · rintro ⟨i, hi, h2⟩
        by_cases e2 : i = k
        · subst e2; rw [h2]; exact .inr rfl
        · exact .inl ⟨i, by omega, h2⟩
    · rw [if_neg fun h => e h.1, ih]
      constructor
      · rintro ⟨i, hi, h2⟩; exact ⟨i, by omega, h2⟩
      · rintro ⟨i, hi, h2⟩
        by_cases e2 : i = k
        · subst e2; rw [h2] at e; exact absurd rfl e
        · exact ⟨i, by omega, h2⟩
def abT (n : Nat) (ns : List Nat) : List Nat := nxT (prsTo n (pf n ns false) n) n (prsTo n (pf n ns false) n).length
theorem prs_get {n : Nat} {ns : List Nat} {k : Nat} (hk : k < (prsTo n (pf n ns false) n).length) : ((prsTo n (pf n ns false) n).getD k (0, 0)).1 < n ∧ ((prsTo n (pf n ns false) n).getD k (0, 0)).2 < n ∧ lt ns ((prsTo n (pf n ns false) n).getD k (0, 0)).1 ((prsTo n (pf n ns false) n).getD k (0, 0)).2 = true := by
  have h : (prsTo n (pf n ns false) n).getD k (0, 0) ∈ prsTo n (pf n ns false) n := by
    rw [List.getD_eq_getElem?_getD, List.getElem?_eq_getElem hk]; exact List.getElem_mem hk
  obtain ⟨a, b, c⟩ := prs_mem.1 h
  unfold pf at c
  rw [Bool.and_eq_true] at c
  exact ⟨a, b, c.1⟩
theorem abT_abv {n : Nat} {ns : List Nat} (hn : n ≤ 10) : Abv n ns (abT n ns) := by
  have hb : ∀ a b, ((abT n ns).getD a 0).testBit b = true ↔ a < n ∧ b < n ∧ lt ns a b = true := fun a b => by
    unfold abT
    rw [nxT_bit (fun k hk => (prs_get hk).1) _ (Nat.le_refl _)]
    constructor
    · rintro ⟨i, hi, h2⟩
      have := prs_get hi
      rw [h2] at this
      exact this
    · rintro ⟨h1, h2, h3⟩
      have h4 : (a, b) ∈ prsTo n (pf n ns false) n := prs_mem.2 ⟨h1, h2, by unfold pf; rw [h3]; rfl⟩
      obtain ⟨i, hi, he⟩ := List.getElem_of_mem h4
      exact ⟨i, hi, by rw [List.getD_eq_getElem?_getD, List.getElem?_eq_getElem hi]; exact he⟩
  refine ⟨⟨hn, hn, nxT_len _ _ _, fun x hx => ?_⟩, fun a b ha hb2 => ?_⟩
  · obtain ⟨i, hi, rfl⟩ := List.getElem_of_mem hx
    refine Nat.lt_pow_two_of_testBit _ fun j hj => ?_
    cases hq : ((abT n ns)[i]).testBit j
    · rfl
    · have := (hb i j).1 (by rw [List.getD_eq_getElem?_getD, List.getElem?_eq_getElem hi]; exact hq)
      omega
  · rw [Bool.eq_iff_iff, hb]
    exact ⟨fun h => h.2.2, fun h => ⟨ha, hb2, h⟩⟩
/-- The points to which none of the first k goes. -/
def fsT (w : List Int) (n : Nat) : Nat → Nat
  | 0 => 2 ^ n - 1
  | k + 1 => if 0 ≤ w.getD k 0 then ndiff (fsT w n k) (2 ^ (w.getD k 0).toNat) else fsT w n k
theorem fsT_lt (w : List Int) (n : Nat) : ∀ k, fsT w n k < 2 ^ n
  | 0 => Nat.sub_lt (Nat.pow_pos (by decide)) (by decide)
  | k + 1 => by
    rw [fsT]
    split
    · exact ndiff_lt (fsT_lt w n k)
    · exact fsT_lt w n k
theorem fsT_bit {w : List Int} {n x : Nat} : ∀ {k : Nat}, ((fsT w n k).testBit x = true ↔ x < n ∧ ∀ i, i < k → w.getD i 0 ≠ (x : Int))
  | 0 => by
    rw [fsT, Nat.testBit_two_pow_sub_one, decide_eq_true_eq]
    exact ⟨fun h => ⟨h, fun i hi => absurd hi (Nat.not_lt_zero i)⟩, fun h => h.1⟩
  | k + 1 => by
    have ih := fsT_bit (w := w) (n := n) (x := x) (k := k)
    rw [fsT]
    split
    · rename_i h0
      rw [nd_bit, Bool.and_eq_true, ih, Nat.testBit_two_pow, Bool.not_eq_true', decide_eq_false_iff_not]
      constructor
      · rintro ⟨⟨h1, h2⟩, h3⟩
        refine ⟨h1, fun i hi => ?_⟩
        by_cases e : i = k
        · subst e; omega
        · exact h2 i (by omega)
      · rintro ⟨h1, h2⟩
        have := h2 k (by omega)
        exact ⟨⟨h1, fun i hi => h2 i (by omega)⟩, by omega⟩
    · rename_i h0
      rw [ih]
      refine and_congr_right fun _ => ⟨fun h i hi => ?_, fun h i hi => h i (by omega)⟩
      by_cases e : i = k
      · subst e; omega
      · exact h i (by omega)
def chR (w : List Int) (n : Nat) (L : List Nat) (k : Nat) : List (List Nat) := (List.range k).map fun i => chF w (n + 1) (L.getD i 0 : Nat)
/-- The chains. -/
def chs (n : Nat) (ns : List Nat) : List (List Nat) := chR (kp n n (abT n ns) n).w n (mbs (fsT (kp n n (abT n ns) n).w n n)) (mbs (fsT (kp n n (abT n ns) n).w n n)).length
end Go.Proofs.Ytgojkabjgagjcaa
set_option linter.unusedSimpArgs false
set_option linter.unusedVariables false
set_option linter.unusedSectionVars false
set_option maxRecDepth 20000
namespace Go.Proofs.Ytgojkabjgagjcaa
attribute [local irreducible] QOp aL aC qL
structure Ptd (n : Nat) (ns : List Nat) (R : List (List Nat)) : Prop where
  rl : R.length ≤ 10
  ll : ∀ i, (R.getD i []).length ≤ 11
  lt : ∀ i, i < R.length → ∀ k, k < (R.getD i []).length → (R.getD i []).getD k 0 < n
  one : ∀ i k i' k', i < R.length → k < (R.getD i []).length → i' < R.length → k' < (R.getD i' []).length → (R.getD i []).getD k 0 = (R.getD i' []).getD k' 0 → i = i' ∧ k = k'
  up : ∀ i k k', i < R.length → k < k' → k' < (R.getD i []).length → _root_.Go.Proofs.Ytgojkabjgagjcaa.lt ns ((R.getD i []).getD k 0) ((R.getD i []).getD k' 0) = true
  ne : ∀ i, i < R.length → 0 < (R.getD i []).length
  all : ∀ x, x < n → ∃ i k, i < R.length ∧ k < (R.getD i []).length ∧ (R.getD i []).getD k 0 = x
theorem mbs_pc_all : ((List.range 1024).all fun x => (mbs x).length == pcTo x 10) = true := by kernel_rfl
theorem mbs_pc {x : Nat} (h : x < 1024) : (mbs x).length = pcTo x 10 := eq_of_beq (List.all_eq_true.1 mbs_pc_all x (List.mem_range.2 h))
theorem chs_get {n : Nat} {ns : List Nat} {i : Nat} (hi : i < (mbs (fsT (kp n n (abT n ns) n).w n n)).length) : (chs n ns).getD i [] = chF (kp n n (abT n ns) n).w (n + 1) ((mbs (fsT (kp n n (abT n ns) n).w n n)).getD i 0 : Nat) := by
  unfold chs chR
  rw [List.getD_eq_getElem?_getD, List.getElem?_map, List.getElem?_range hi]; rfl
theorem chs_len0 (n : Nat) (ns : List Nat) : (chs n ns).length = (mbs (fsT (kp n n (abT n ns) n).w n n)).length := by simp [chs, chR]
theorem chs_len {n : Nat} {ns : List Nat} (hn : n ≤ 10) (hok : okB n ns = true) : (chs n ns).length = pcTo (wdT (cnB ns false) (2 ^ n)) 10 := by
  have hA := abT_abv (ns := ns) hn
  have hm := (koenig hA.ctx).mt
  rw [hA.dilworth hok hn, ← starts_fr hA hm, chs_len0]
  have hpn := p2_10 hn
  have h1 := fsT_lt (kp n n (abT n ns) n).w n n
  rw [mbs_pc (by omega), pcTo_10 h1 hn, pc_cn]
  refine cn_congr n fun x hx => ?_
  rw [Bool.eq_iff_iff, fsT_bit, Bool.not_eq_true', Bool.eq_false_iff, ne_eq, hit_iff]
  exact ⟨fun h ⟨i, h2, h3⟩ => h.2 i h2 h3, fun h => ⟨hx, fun i h2 h3 => h ⟨i, h2, h3⟩⟩⟩
theorem chs_ptd {n : Nat} {ns : List Nat} (hn : n ≤ 10) (hok : okB n ns = true) : Ptd n ns (chs n ns) := by
  have hA := abT_abv (ns := ns) hn
  have hm := (koenig hA.ctx).mt
  have hg := @chs_get n ns
  have hl0 := chs_len0 n ns
  have hst : ∀ i, i < (mbs (fsT (kp n n (abT n ns) n).w n n)).length → (mbs (fsT (kp n n (abT n ns) n).w n n)).getD i 0 < n ∧ hitB (kp n n (abT n ns) n).w n ((mbs (fsT (kp n n (abT n ns) n).w n n)).getD i 0) = false := fun i hi => by
    obtain ⟨h1, h2⟩ := fsT_bit.1 (mbs_get hi).2
    refine ⟨h1, ?_⟩
    rw [Bool.eq_false_iff, ne_eq, hit_iff]
    exact fun ⟨j, h3, h4⟩ => h2 j h3 h4
  have hri := fun i j => @mbs_rise (fsT (kp n n (abT n ns) n).w n n) i j
  have hml := mbs_len (fsT (kp n n (abT n ns) n).w n n)
  have hmp : ∀ p, p < n → hitB (kp n n (abT n ns) n).w n p = false → ∃ i, i < (mbs (fsT (kp n n (abT n ns) n).w n n)).length ∧ (mbs (fsT (kp n n (abT n ns) n).w n n)).getD i 0 = p := fun p hp hq => by
    have hpn := p2_10 hn
    have h1 := fsT_lt (kp n n (abT n ns) n).w n n
    refine mbs_pos (by omega) (fsT_bit.2 ⟨hp, fun i hi he => ?_⟩)
    rw [hit_iff.2 ⟨i, hi, he⟩] at hq; cases hq
  generalize mbs (fsT (kp n n (abT n ns) n).w n n) = L at *
  generalize (kp n n (abT n ns) n).w = w at *
  generalize chs n ns = R at *
  refine ⟨by omega, fun i => ?_, fun i hi k hk => ?_, fun i k i' k' hi hk hi' hk' he => ?_, fun i k k' hi hkk hk' => ?_, fun i hi => ?_, fun x hx => ?_⟩
  · rcases Nat.lt_or_ge i L.length with h | h
    · rw [hg h]; exact Nat.le_trans (chF_len _ _ _) (by omega)
    · rw [List.getD_eq_getElem?_getD, List.getElem?_eq_none (by omega)]; exact Nat.zero_le _
  · rw [hl0] at hi
    rw [hg hi] at hk ⊢
    exact chF_in hA hm (hst i hi).1 k hk
  · rw [hl0] at hi hi'
    rw [hg hi, hg hi'] at he
    rw [hg hi] at hk
    rw [hg hi'] at hk'
    obtain ⟨a, b⟩ := chF_one hA hm (hst i hi).1 (hst i' hi').1 (hst i hi).2 (hst i' hi').2 k k' hk hk' he
    refine ⟨?_, b⟩
    rcases Nat.lt_trichotomy i i' with h | h | h
    · have := hri i i' h hi'; omega
    · exact h
    · have := hri i' i h hi; omega
  · rw [hl0] at hi
    rw [hg hi] at hk' ⊢
    exact chF_lt hA hok hm (hst i hi).1 k' hkk hk'
  · rw [hl0] at hi
    rw [hg hi]
    exact chF_head.2
  · obtain ⟨p, hp, hq, k, hk, he⟩ := chF_all hA hok hm (rk n ns x) x hx (Nat.le_refl _)
    obtain ⟨i, hi, rfl⟩ := hmp p hp hq
    exact ⟨i, k, by omega, by rw [hg hi]; exact hk, by rw [hg hi]; exact he⟩
end Go.Proofs.Ytgojkabjgagjcaa
set_option linter.unusedSimpArgs false
set_option linter.unusedVariables false
set_option linter.unusedSectionVars false
set_option maxRecDepth 20000
namespace Go.Proofs.Ytgojkabjgagjcaa
attribute [local irreducible] QOp aL aC qL
/-- How many points of a chain are neither p nor above it. -/
def ncA (ns C : List Nat) (p : Nat) : Nat := (List.range C.length).countP fun k => !(C.getD k 0 == p || lt ns p (C.getD k 0))
theorem cvb_width {n : Nat} {ns : List Nat} (hn : n ≤ 10) (hv : Vld n ns) (hok : okB n ns = true) {R : List (List Nat)} (hP : Ptd n ns R) : Cvb n ns (max 1 R.length) := by
  have otr : ∀ {a b c}, lt ns a b = true → lt ns b c = true → lt ns a c = true := fun {a b c} h1 h2 => okB_tr hok (vldR hv h2) (vldR hv h1) h2 h1
  by_cases h0 : R.length = 0
  · rw [h0]
    refine (cvb_one hv hok).2 fun a b h => ?_
    obtain ⟨i, _, hi, _⟩ := hP.all a h.l
    omega
  have hr0 := nth0 hv hok
  generalize nthN n ns 0 = r0 at hr0
  have hix : ∀ a, a < n → r0.idxOf a < n := fun a ha => by
    have := List.idxOf_lt_length_iff.2 (hr0.all a ha)
    rwa [hr0.len] at this
  have one : ∀ i : Nat, ∃ r, RowI n ns r ∧ ∀ a b, ApP n ns (a, b) → ncA ns (R.getD i []) a * 16 + r0.idxOf a < ncA ns (R.getD i []) b * 16 + r0.idxOf b → ahd r (a, b) = true := fun i =>
    key_row hv _ fun a b hab => by
      have hb := vldR hv hab
      have h1 := hr0.ord a b hb hab
      have h2 : ncA ns (R.getD i []) a ≤ ncA ns (R.getD i []) b := List.countP_mono_left fun k _ hk => by
        rw [Bool.not_eq_true', Bool.or_eq_false_iff] at hk ⊢
        refine ⟨beq_false_of_ne fun e => ?_, ?_⟩
        · rw [e, hab] at hk; exact Bool.noConfusion hk.2
        · cases hq : lt ns b ((R.getD i []).getD k 0)
          · rfl
          · rw [otr hab hq] at hk; exact Bool.noConfusion hk.2
      omega
  obtain ⟨f, hf⟩ := Classical.axiomOfChoice one
  refine ⟨(List.range R.length).map f, by rw [List.length_map, List.length_range]; omega, ⟨fun r hr => ?_, fun p hp => ?_⟩⟩
  · obtain ⟨i, _, rfl⟩ := List.mem_map.1 hr
    exact (hf i).1
  · obtain ⟨a, b⟩ := p
    have hp := apL_mem.1 hp
    obtain ⟨i, j, hi, hj, e⟩ := hP.all a hp.l
    refine ⟨f i, List.mem_map.2 ⟨i, List.mem_range.2 hi, rfl⟩, (hf i).2 a b hp ?_⟩
    have hup := fun k k' => hP.up i k k' hi
    have h1 : ncA ns (R.getD i []) a < ncA ns (R.getD i []) b := by
      refine countP_lt (x := j) (fun k hk hka => ?_) (List.mem_range.2 hj) ?_ ?_
      · rw [Bool.not_eq_true', Bool.or_eq_false_iff] at hka ⊢
        have hk := List.mem_range.1 hk
        have hge : ¬ lt ns ((R.getD i []).getD k 0) a = true → False := fun hno => by
          rcases Nat.lt_trichotomy k j with q | q | q
          · exact hno (by rw [← e]; exact hup k j q hj)
          · subst q
            rw [e] at hka
            simp at hka
          · have := hup j k q hk
            rw [e, hka.2] at this; cases this
        cases hq : lt ns ((R.getD i []).getD k 0) a
        · exact (hge (by rw [hq]; decide)).elim
        · refine ⟨beq_false_of_ne fun e2 => ?_, ?_⟩
          · rw [e2] at hq
            have := hp.no2
            dsimp only at this
            rw [hq] at this; cases this
          · cases hq2 : lt ns b ((R.getD i []).getD k 0)
            · rfl
            · have := otr hq2 hq
              have h3 := hp.no2
              dsimp only at h3
              rw [this] at h3; cases h3
      · rw [e, Bool.not_eq_true', Bool.or_eq_false_iff]
        exact ⟨beq_false_of_ne hp.ne, hp.no2⟩
      · rw [e]; simp
    have := hix a hp.l
    omega
end Go.Proofs.Ytgojkabjgagjcaa
