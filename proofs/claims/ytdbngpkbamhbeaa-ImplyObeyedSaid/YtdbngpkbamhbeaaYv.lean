import Derived.Test.YtdbngpkbamhbeaaYu
set_option linter.unusedSimpArgs false
set_option linter.unusedVariables false
set_option linter.unusedSectionVars false
set_option maxRecDepth 20000
namespace Go.Proofs.Ytdbngpkbamhbeaa
attribute [local irreducible] QOp aL aC qL
variable {kf : Nat → Nat}
def upS (L : List Nat) (a : Nat) : Nat → List Nat
  | 0 => L
  | k + 1 => swp (upS L a k) (a + k) (a + k + 1)
def dmS (L : List Nat) (m : Nat) : Nat → List Nat
  | 0 => L
  | k + 1 => swp (dmS L m k) (m - k) (m - k - 1)
theorem upS_len (L : List Nat) (a : Nat) : ∀ k, (upS L a k).length = L.length
  | 0 => rfl
  | k + 1 => by rw [upS, swp_len, upS_len L a k]
theorem dmS_len (L : List Nat) (m : Nat) : ∀ k, (dmS L m k).length = L.length
  | 0 => rfl
  | k + 1 => by rw [dmS, swp_len, dmS_len L m k]
theorem upS_get {L : List Nat} {a : Nat} : ∀ k, a + k < L.length → ∀ x, (upS L a k).getD x 0 = if x = a + k then L.getD a 0 else if a ≤ x ∧ x < a + k then L.getD (x + 1) 0 else L.getD x 0
  | 0, _, x => by
    by_cases e : x = a + 0
    · rw [if_pos e, e]; rfl
    · rw [if_neg e, if_neg (by omega)]; rfl
  | k + 1, h, x => by
    have ih := upS_get (L := L) (a := a) k (by omega)
    rw [upS, swp_get (by rw [upS_len]; omega) (by rw [upS_len]; omega), ih, ih, ih]
    by_cases e1 : x = a + (k + 1)
    · rw [if_pos (show x = a + k + 1 by omega), if_pos rfl, if_pos e1]
    · rw [if_neg (show ¬ x = a + k + 1 by omega), if_neg e1]
      by_cases e2 : x = a + k
      · rw [if_pos e2, if_neg (by omega), if_neg (by omega), if_pos (by omega), e2]
      · rw [if_neg e2, if_neg e2]
        by_cases e3 : a ≤ x ∧ x < a + k
        · rw [if_pos e3, if_pos (by omega)]
        · rw [if_neg e3, if_neg (by omega)]
theorem dmS_get {L : List Nat} {m : Nat} : ∀ k, k ≤ m → m < L.length → ∀ x, (dmS L m k).getD x 0 = if x = m - k then L.getD m 0 else if m - k < x ∧ x ≤ m then L.getD (x - 1) 0 else L.getD x 0
  | 0, _, _, x => by
    by_cases e : x = m - 0
    · rw [if_pos e, e]; rfl
    · rw [if_neg e, if_neg (by omega)]; rfl
  | k + 1, hk, h, x => by
    have ih := dmS_get (L := L) (m := m) k (by omega) h
    rw [dmS, swp_get (by rw [dmS_len]; omega) (by rw [dmS_len]; omega), ih, ih, ih]
    by_cases e1 : x = m - (k + 1)
    · rw [if_pos (show x = m - k - 1 by omega), if_pos rfl, if_pos e1]
    · rw [if_neg (show ¬ x = m - k - 1 by omega), if_neg e1]
      by_cases e2 : x = m - k
      · rw [if_pos e2, if_neg (by omega), if_neg (by omega), if_pos (by omega), e2]
      · rw [if_neg e2, if_neg e2]
        by_cases e3 : m - k < x ∧ x ≤ m
        · rw [if_pos e3, if_pos (by omega)]
        · rw [if_neg e3, if_neg (by omega)]
theorem upS_sm {L : List Nat} {a b : Nat} : ∀ k, a + k < b → b ≤ L.length → Sm a b L (upS L a k)
  | 0, _, _ => Sm.refl _ _ _
  | k + 1, h, hb => (upS_sm k (by omega) hb).trans (Sm.swp (by omega) (by omega) (by omega) (by omega) (by rw [upS_len]; exact hb))
theorem dmS_sm {L : List Nat} {m a b : Nat} : ∀ k, a + k ≤ m → m < b → b ≤ L.length → Sm a b L (dmS L m k)
  | 0, _, _, _ => Sm.refl _ _ _
  | k + 1, h, hm, hb => (dmS_sm k (by omega) hm hb).trans (Sm.swp (by omega) (by omega) (by omega) (by omega) (by rw [dmS_len]; exact hb))
/-- Where the first half's rest begins. -/
def stM (kf : Nat → Nat) (a m b : Nat) (L : List Nat) : Nat :=
  fstF (fun c => !decide (kf (L.getD ((a + b) / 2 + m - 1 - c) 0) < kf (L.getD c 0))) (if (a + b) / 2 < m then (a + b) / 2 + m - b else a) (if (a + b) / 2 < m then (a + b) / 2 else m)
def i1M (kf : Nat → Nat) (a m b : Nat) (L : List Nat) : Nat := fstF (fun h => decide (kf (L.getD h 0) < kf (L.getD a 0))) m b
def i2M (kf : Nat → Nat) (a m _b : Nat) (L : List Nat) : Nat := fstF (fun h => !decide (kf (L.getD m 0) < kf (L.getD h 0))) a m
def ro1 (a m b : Nat) (L : List Nat) : List Nat := if a < m ∧ m < b then rotS a m b L else L
def symF (kf : Nat → Nat) : Nat → Nat → Nat → Nat → List Nat → List Nat
  | 0, _, _, _, L => L
  | f + 1, a, m, b, L =>
    if m - a = 1 then upS L a (i1M kf a m b L - 1 - a)
    else if b - m = 1 then dmS L m (m - i2M kf a m b L)
    else
      let s := stM kf a m b L
      let mid := (a + b) / 2
      let e := mid + m - s
      let L1 := ro1 s m e L
      let L2 := if a < s ∧ s < mid then symF kf f a s mid L1 else L1
      if mid < e ∧ e < b then symF kf f mid e b L2 else L2
theorem stM_ok {a m b : Nat} {L : List Nat} (h1 : a < m) (h2 : m < b) : (if (a + b) / 2 < m then (a + b) / 2 + m - b else a) ≤ stM kf a m b L ∧ stM kf a m b L ≤ (if (a + b) / 2 < m then (a + b) / 2 else m) ∧ a ≤ stM kf a m b L ∧ stM kf a m b L ≤ m ∧ stM kf a m b L ≤ (a + b) / 2 ∧ m ≤ (a + b) / 2 + m - stM kf a m b L ∧ (a + b) / 2 + m - stM kf a m b L ≤ b := by
  have hle : (if (a + b) / 2 < m then (a + b) / 2 + m - b else a) ≤ (if (a + b) / 2 < m then (a + b) / 2 else m) := by split <;> omega
  obtain ⟨g1, g2, _, _⟩ := fstF_ok (P := fun c => !decide (kf (L.getD ((a + b) / 2 + m - 1 - c) 0) < kf (L.getD c 0))) hle
  change _ ≤ stM kf a m b L at g1
  change stM kf a m b L ≤ _ at g2
  refine ⟨g1, g2, ?_⟩
  split at g1 <;> split at g2 <;> omega
theorem rot_get {a m b : Nat} {L : List Nat} (h1 : a ≤ m) (h2 : m ≤ b) (h3 : b ≤ L.length) : (∀ x, (ro1 a m b L).getD x 0 = rtG a m b L x) ∧ Sm a b L (ro1 a m b L) := by
  unfold ro1
  split
  · rename_i h; exact rotS_ok h.1 h.2 h3
  · rename_i h
    refine ⟨fun x => ?_, Sm.refl _ _ _⟩
    unfold rtG
    by_cases e : a ≤ x ∧ x < b
    · rw [if_pos e]
      by_cases e2 : x < a + (b - m)
      · rw [if_pos e2]; congr 1; omega
      · rw [if_neg e2]; congr 1; omega
    · rw [if_neg e]
theorem i1_ok {a m b : Nat} {L : List Nat} (hm : m = a + 1) (h2 : m < b) (hb : b ≤ L.length) (hs : Srt kf m b L) : Sm a b L (upS L a (i1M kf a m b L - 1 - a)) ∧ Srt kf a b (upS L a (i1M kf a m b L - 1 - a)) := by
  obtain ⟨g1, g2, g3, g4⟩ := fstF_ok (P := fun h => decide (kf (L.getD h 0) < kf (L.getD a 0))) (lo := m) (hi := b) (by omega)
  change m ≤ i1M kf a m b L at g1
  change i1M kf a m b L ≤ b at g2
  change ∀ x, m ≤ x → x < i1M kf a m b L → _ at g3
  change i1M kf a m b L < b → decide (kf (L.getD (i1M kf a m b L) 0) < kf (L.getD a 0)) = false at g4
  generalize i1M kf a m b L = i at *
  have hg := upS_get (L := L) (a := a) (i - 1 - a) (by omega)
  rw [show a + (i - 1 - a) = i - 1 by omega] at hg
  refine ⟨upS_sm _ (by omega) hb, fun x y hx hxy hy => ?_⟩
  have lo : ∀ z, m ≤ z → z < i → kf (L.getD z 0) < kf (L.getD a 0) := fun z h1 h2 => of_decide_eq_true (g3 z h1 h2)
  have hi : ∀ z, i ≤ z → z < b → kf (L.getD a 0) ≤ kf (L.getD z 0) := fun z h1 h2 => by
    have h3 := of_decide_eq_false (g4 (by omega))
    have h4 := hs i z (by omega) h1 h2
    omega
  rw [hg, hg]
  by_cases ex : x = i - 1
  · rw [if_pos ex]
    by_cases ey : y = i - 1
    · rw [if_pos ey]; exact Nat.le_refl _
    · rw [if_neg ey, if_neg (by omega)]; exact hi y (by omega) hy
  · rw [if_neg ex]
    by_cases e1 : a ≤ x ∧ x < i - 1
    · rw [if_pos e1]
      by_cases ey : y = i - 1
      · rw [if_pos ey]; exact Nat.le_of_lt (lo (x + 1) (by omega) (by omega))
      · rw [if_neg ey]
        by_cases e2 : a ≤ y ∧ y < i - 1
        · rw [if_pos e2]; exact hs (x + 1) (y + 1) (by omega) (by omega) (by omega)
        · rw [if_neg e2]; exact hs (x + 1) y (by omega) (by omega) hy
    · rw [if_neg e1, if_neg (show ¬ y = i - 1 by omega), if_neg (by omega)]
      exact hs x y (by omega) hxy hy
theorem i2_ok {a m b : Nat} {L : List Nat} (h1 : a < m) (hm : b = m + 1) (hb : b ≤ L.length) (hs : Srt kf a m L) : Sm a b L (dmS L m (m - i2M kf a m b L)) ∧ Srt kf a b (dmS L m (m - i2M kf a m b L)) := by
  obtain ⟨g1, g2, g3, g4⟩ := fstF_ok (P := fun h => !decide (kf (L.getD m 0) < kf (L.getD h 0))) (lo := a) (hi := m) (by omega)
  change a ≤ i2M kf a m b L at g1
  change i2M kf a m b L ≤ m at g2
  change ∀ x, a ≤ x → x < i2M kf a m b L → _ at g3
  change i2M kf a m b L < m → (!decide (kf (L.getD m 0) < kf (L.getD (i2M kf a m b L) 0))) = false at g4
  generalize i2M kf a m b L = i at *
  have hg := dmS_get (L := L) (m := m) (m - i) (by omega) (by omega)
  rw [show m - (m - i) = i by omega] at hg
  refine ⟨dmS_sm _ (by omega) (by omega) hb, fun x y hx hxy hy => ?_⟩
  have lo : ∀ z, a ≤ z → z < i → kf (L.getD z 0) ≤ kf (L.getD m 0) := fun z h1 h2 => by
    have := g3 z h1 h2
    rw [Bool.not_eq_true', decide_eq_false_iff_not] at this
    omega
  have hi : ∀ z, i ≤ z → z < m → kf (L.getD m 0) ≤ kf (L.getD z 0) := fun z h1 h2 => by
    have h3 := g4 (by omega)
    rw [Bool.not_eq_false', decide_eq_true_eq] at h3
    have h4 := hs i z (by omega) h1 h2
    omega
  rw [hg, hg]
  by_cases ex : x = i
  · rw [if_pos ex]
    by_cases ey : y = i
    · rw [if_pos ey]; exact Nat.le_refl _
    · rw [if_neg ey, if_pos (by omega)]; exact hi (y - 1) (by omega) (by omega)
  · rw [if_neg ex]
    by_cases e1 : i < x ∧ x ≤ m
    · rw [if_pos e1, if_neg (show ¬ y = i by omega), if_pos (by omega)]
      exact hs (x - 1) (y - 1) (by omega) (by omega) (by omega)
    · rw [if_neg e1]
      by_cases ey : y = i
      · rw [if_pos ey]; exact lo x hx (by omega)
      · rw [if_neg ey]
        by_cases e2 : i < y ∧ y ≤ m
        · rw [if_pos e2]; exact hs x (y - 1) hx (by omega) (by omega)
        · rw [if_neg e2]; exact hs x y hx hxy (by omega)
/-- What is so once the middles have changed places. -/
theorem rot_ok {a m b : Nat} {L : List Nat} (h1 : a < m) (h2 : m < b) (hb : b ≤ L.length) (hs : Srt kf a m L) (ht : Srt kf m b L) :
    let s := stM kf a m b L
    let mid := (a + b) / 2
    let e := mid + m - s
    Sm a b L (ro1 s m e L) ∧ Srt kf a s (ro1 s m e L) ∧ Srt kf s mid (ro1 s m e L) ∧ Srt kf mid e (ro1 s m e L) ∧ Srt kf e b (ro1 s m e L) ∧ ∀ x y, a ≤ x → x < mid → mid ≤ y → y < b → kf ((ro1 s m e L).getD x 0) ≤ kf ((ro1 s m e L).getD y 0) := by
  intro s mid e
  obtain ⟨k1, k2, k3, k4, k5, k6, k7⟩ := stM_ok (kf := kf) (L := L) h1 h2
  change _ ≤ s at k1
  change s ≤ _ at k2
  change a ≤ s at k3
  change s ≤ m at k4
  change s ≤ mid at k5
  change m ≤ e at k6
  change e ≤ b at k7
  have hle : (if mid < m then mid + m - b else a) ≤ (if mid < m then mid else m) := Nat.le_trans k1 k2
  obtain ⟨_, _, g3, g4⟩ := fstF_ok (P := fun c => !decide (kf (L.getD (mid + m - 1 - c) 0) < kf (L.getD c 0))) hle
  change ∀ x, _ → x < s → _ at g3
  change s < _ → (!decide (kf (L.getD (mid + m - 1 - s) 0) < kf (L.getD s 0))) = false at g4
  have he : e = mid + m - s := rfl
  have hmid : mid = (a + b) / 2 := rfl
  clear_value s mid e
  obtain ⟨hg, hsm⟩ := rot_get (a := s) (m := m) (b := e) (L := L) k4 k6 (by omega)
  -- across the cut
  have c1 : ∀ x y, a ≤ x → x < s → e ≤ y → y < b → kf (L.getD x 0) ≤ kf (L.getD y 0) := by
    intro x y hx hxs hy hyb
    have h3 : (if mid < m then mid + m - b else a) ≤ s - 1 := by
      split
      · split at k1 <;> omega
      · split at k1 <;> omega
    have h4 := g3 (s - 1) h3 (by omega)
    rw [Bool.not_eq_true', decide_eq_false_iff_not, show mid + m - 1 - (s - 1) = e by omega] at h4
    have h5 := hs x (s - 1) hx (by omega) (by omega)
    have h6 := ht e y k6 hy hyb
    omega
  have c2 : ∀ x y, m ≤ x → x < e → s ≤ y → y < m → kf (L.getD x 0) ≤ kf (L.getD y 0) := by
    intro x y hx hxe hy hym
    have h3 : s < (if mid < m then mid else m) := by
      split
      · split at k2 <;> omega
      · split at k2 <;> omega
    have h4 := g4 h3
    rw [Bool.not_eq_false', decide_eq_true_eq, show mid + m - 1 - s = e - 1 by omega] at h4
    have h5 := ht x (e - 1) hx (by omega) (by omega)
    have h6 := hs s y k3 hy hym
    omega
  refine ⟨hsm.wide k3 k7, fun x y hx hxy hy => ?_, fun x y hx hxy hy => ?_, fun x y hx hxy hy => ?_, fun x y hx hxy hy => ?_, fun x y hx hxm hy hyb => ?_⟩
  · rw [hg, hg]; unfold rtG; rw [if_neg (by omega), if_neg (by omega)]; exact hs x y hx hxy (by omega)
  · rw [hg, hg]; unfold rtG; rw [if_pos (by omega), if_pos (by omega), if_pos (by omega), if_pos (by omega)]; exact ht _ _ (by omega) (by omega) (by omega)
  · rw [hg, hg]; unfold rtG; rw [if_pos (by omega), if_neg (by omega), if_pos (by omega), if_neg (by omega)]; exact hs _ _ (by omega) (by omega) (by omega)
  · rw [hg, hg]; unfold rtG; rw [if_neg (by omega), if_neg (by omega)]; exact ht x y (by omega) hxy hy
  · rw [hg, hg]; unfold rtG
    by_cases ex : s ≤ x ∧ x < e
    · rw [if_pos ex, if_pos (by omega)]
      by_cases ey : s ≤ y ∧ y < e
      · rw [if_pos ey, if_neg (by omega)]; exact c2 _ _ (by omega) (by omega) (by omega) (by omega)
      · rw [if_neg ey]; exact ht _ _ (by omega) (by omega) hyb
    · rw [if_neg ex]
      by_cases ey : s ≤ y ∧ y < e
      · rw [if_pos ey, if_neg (by omega)]; exact hs _ _ hx (by omega) (by omega)
      · rw [if_neg ey]; exact c1 _ _ hx (by omega) (by omega) hyb
theorem halves {a c b : Nat} {L L' : List Nat} (hl : Sm a c L L') (h : ∀ x y, a ≤ x → x < c → c ≤ y → y < b → kf (L.getD x 0) ≤ kf (L.getD y 0)) : ∀ x y, a ≤ x → x < c → c ≤ y → y < b → kf (L'.getD x 0) ≤ kf (L'.getD y 0) := by
  intro x y hx hxc hy hyb
  obtain ⟨z, h1, h2, h3⟩ := hl.im x hx hxc
  rw [h3, hl.out y (by omega)]
  exact h z y h1 h2 hy hyb
theorem halves2 {a c b : Nat} {L L' : List Nat} (hl : Sm c b L L') (h : ∀ x y, a ≤ x → x < c → c ≤ y → y < b → kf (L.getD x 0) ≤ kf (L.getD y 0)) : ∀ x y, a ≤ x → x < c → c ≤ y → y < b → kf (L'.getD x 0) ≤ kf (L'.getD y 0) := by
  intro x y hx hxc hy hyb
  obtain ⟨z, h1, h2, h3⟩ := hl.im y hy hyb
  rw [h3, hl.out x (by omega)]
  exact h x z hx hxc h1 h2
theorem two_srt {a c b : Nat} {L : List Nat} (h1 : Srt kf a c L) (h2 : Srt kf c b L) (h : ∀ x y, a ≤ x → x < c → c ≤ y → y < b → kf (L.getD x 0) ≤ kf (L.getD y 0)) : Srt kf a b L := by
  intro x y hx hxy hy
  by_cases e1 : y < c
  · exact h1 x y hx hxy e1
  · by_cases e2 : c ≤ x
    · exact h2 x y e2 hxy hy
    · exact h x y hx (by omega) (by omega) hy
theorem symF_ok : ∀ (f : Nat) {a m b : Nat} {L : List Nat}, a < m → m < b → b ≤ L.length → b - a ≤ f → Srt kf a m L → Srt kf m b L → Sm a b L (symF kf f a m b L) ∧ Srt kf a b (symF kf f a m b L)
  | 0, a, m, b, L, h1, h2, _, hf, _, _ => by omega
  | f + 1, a, m, b, L, h1, h2, hb, hf, hs, ht => by
    unfold symF
    by_cases e1 : m - a = 1
    · rw [if_pos e1]; exact i1_ok (by omega) h2 hb ht
    rw [if_neg e1]
    by_cases e2 : b - m = 1
    · rw [if_pos e2]; exact i2_ok h1 (by omega) hb hs
    rw [if_neg e2]
    obtain ⟨r1, r2, r3, r4, r5, r6⟩ := rot_ok (kf := kf) h1 h2 hb hs ht
    obtain ⟨k1, k2, k3, k4, k5, k6, k7⟩ := stM_ok (kf := kf) (L := L) h1 h2
    clear k1 k2
    dsimp only at r1 r2 r3 r4 r5 r6 ⊢
    generalize stM kf a m b L = s at *
    generalize ro1 s m ((a + b) / 2 + m - s) L = L1 at *
    generalize he : (a + b) / 2 + m - s = e at *
    generalize hm : (a + b) / 2 = mid at *
    have q1 : ∃ L2, (if a < s ∧ s < mid then symF kf f a s mid L1 else L1) = L2 ∧ Sm a mid L1 L2 ∧ Srt kf a mid L2 := by
      split
      · rename_i hc
        have ih := symF_ok f (a := a) (m := s) (b := mid) (L := L1) hc.1 hc.2 (by rw [r1.len]; omega) (by omega) r2 r3
        exact ⟨_, rfl, ih⟩
      · rename_i hc
        refine ⟨_, rfl, Sm.refl _ _ _, ?_⟩
        by_cases e3 : a < s
        · have : s = mid := by omega
          rw [← this]; exact r2
        · have : s = a := by omega
          rw [← this]; exact r3
    obtain ⟨L2, hL2, q2, q3⟩ := q1
    rw [hL2]
    have r4' : Srt kf mid e L2 := r4.out q2 (.inr (Nat.le_refl _))
    have r5' : Srt kf e b L2 := r5.out q2 (.inr (by omega))
    have r6' := halves q2 r6
    by_cases hc : mid < e ∧ e < b
    · rw [if_pos hc]
      have ih := symF_ok f (a := mid) (m := e) (b := b) (L := L2) hc.1 hc.2 (by rw [q2.len, r1.len]; omega) (by omega) r4' r5'
      refine ⟨(r1.trans (q2.wide (Nat.le_refl _) (by omega))).trans (ih.1.wide (by omega) (Nat.le_refl _)), two_srt (q3.out ih.1 (.inl (Nat.le_refl _))) ih.2 (halves2 ih.1 r6')⟩
    · rw [if_neg hc]
      refine ⟨r1.trans (q2.wide (Nat.le_refl _) (by omega)), two_srt q3 ?_ r6'⟩
      by_cases e3 : mid < e
      · have : e = b := by omega
        rw [← this]; exact r4'
      · have : e = mid := by omega
        rw [← this]; exact r5'
end Go.Proofs.Ytdbngpkbamhbeaa
