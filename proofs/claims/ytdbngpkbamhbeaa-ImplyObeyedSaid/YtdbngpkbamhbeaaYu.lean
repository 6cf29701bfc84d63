import Derived.Test.YtdbngpkbamhbeaaGm
set_option linter.unusedSimpArgs false
set_option linter.unusedVariables false
set_option linter.unusedSectionVars false
set_option maxRecDepth 20000
namespace Go.Proofs.Ytdbngpkbamhbeaa
attribute [local irreducible] QOp aL aC qL
def swp (L : List Nat) (i j : Nat) : List Nat := (L.set i (L.getD j 0)).set j (L.getD i 0)
theorem swp_len (L : List Nat) (i j : Nat) : (swp L i j).length = L.length := by simp [swp]
theorem swp_get {L : List Nat} {i j : Nat} (hi : i < L.length) (hj : j < L.length) (x : Nat) : (swp L i j).getD x 0 = if x = j then L.getD i 0 else if x = i then L.getD j 0 else L.getD x 0 := by
  unfold swp
  rw [getD_set3 _ _ _ _ (by simpa using hj), getD_set3 _ _ _ _ hi]
theorem swp_perm {L : List Nat} {i j : Nat} (hi : i < L.length) (hj : j < L.length) : (swp L i j).Perm L := by
  have h := Array.swap_perm (xs := L.toArray) (i := i) (j := j) (by simpa using hi) (by simpa using hj)
  have e : (L.toArray.swap i j (by simpa using hi) (by simpa using hj)).toList = swp L i j := by
    unfold swp
    simp [Array.swap, hi, hj]
  have h2 := h.toList
  rw [e] at h2
  simpa using h2
/-- Only what lies between a and b is laid anew. -/
structure Sm (a b : Nat) (L L' : List Nat) : Prop where
  len : L'.length = L.length
  out : ∀ x, x < a ∨ b ≤ x → L'.getD x 0 = L.getD x 0
  im : ∀ x, a ≤ x → x < b → ∃ y, a ≤ y ∧ y < b ∧ L'.getD x 0 = L.getD y 0
  pm : L'.Perm L
theorem Sm.refl (a b : Nat) (L : List Nat) : Sm a b L L := ⟨rfl, fun _ _ => rfl, fun x h1 h2 => ⟨x, h1, h2, rfl⟩, List.Perm.refl L⟩
theorem Sm.trans {a b : Nat} {L L' L'' : List Nat} (h : Sm a b L L') (g : Sm a b L' L'') : Sm a b L L'' := by
  refine ⟨g.len.trans h.len, fun x hx => (g.out x hx).trans (h.out x hx), fun x h1 h2 => ?_, g.pm.trans h.pm⟩
  obtain ⟨y, h3, h4, h5⟩ := g.im x h1 h2
  obtain ⟨z, h6, h7, h8⟩ := h.im y h3 h4
  exact ⟨z, h6, h7, h5.trans h8⟩
theorem Sm.wide {a b a' b' : Nat} {L L' : List Nat} (h : Sm a b L L') (ha : a' ≤ a) (hb : b ≤ b') : Sm a' b' L L' := by
  refine ⟨h.len, fun x hx => h.out x (by omega), fun x h1 h2 => ?_, h.pm⟩
  by_cases hx : a ≤ x ∧ x < b
  · obtain ⟨y, h3, h4, h5⟩ := h.im x hx.1 hx.2
    exact ⟨y, by omega, by omega, h5⟩
  · exact ⟨x, h1, h2, h.out x (by omega)⟩
theorem Sm.swp {a b i j : Nat} {L : List Nat} (h1 : a ≤ i) (h2 : i < b) (h3 : a ≤ j) (h4 : j < b) (hb : b ≤ L.length) : Sm a b L (swp L i j) := by
  have hg := swp_get (L := L) (i := i) (j := j) (by omega) (by omega)
  refine ⟨swp_len L i j, fun x hx => ?_, fun x hx hx2 => ?_, swp_perm (by omega) (by omega)⟩
  · rw [hg, if_neg (by omega), if_neg (by omega)]
  · rw [hg]
    by_cases e : x = j
    · rw [if_pos e]; exact ⟨i, h1, h2, rfl⟩
    · rw [if_neg e]
      by_cases e2 : x = i
      · rw [if_pos e2]; exact ⟨j, h3, h4, rfl⟩
      · rw [if_neg e2]; exact ⟨x, hx, hx2, rfl⟩
variable {kf : Nat → Nat}
/-- Sorted between a and b. -/
def Srt (kf : Nat → Nat) (a b : Nat) (L : List Nat) : Prop := ∀ x y, a ≤ x → x ≤ y → y < b → kf (L.getD x 0) ≤ kf (L.getD y 0)
theorem Srt.sub {a b a' b' : Nat} {L : List Nat} (h : Srt kf a b L) (ha : a ≤ a') (hb : b' ≤ b) : Srt kf a' b' L := fun x y h1 h2 h3 => h x y (by omega) h2 (by omega)
theorem Srt.out {a b c d : Nat} {L L' : List Nat} (h : Srt kf a b L) (g : Sm c d L L') (hd : b ≤ c ∨ d ≤ a) : Srt kf a b L' := fun x y h1 h2 h3 => by
  rw [g.out x (by omega), g.out y (by omega)]; exact h x y h1 h2 h3
/-! Insertion. -/
def insD (kf : Nat → Nat) (a : Nat) : Nat → List Nat → List Nat
  | 0, L => L
  | j + 1, L => if a < j + 1 ∧ kf (L.getD (j + 1) 0) < kf (L.getD j 0) then insD kf a j (swp L (j + 1) j) else L
theorem insD_ok {a t : Nat} : ∀ (j : Nat) {L : List Nat}, a ≤ j → j ≤ t → t < L.length → (∀ x y, a ≤ x → x ≤ y → y ≤ t → x ≠ j → y ≠ j → kf (L.getD x 0) ≤ kf (L.getD y 0)) → (∀ y, j < y → y ≤ t → kf (L.getD j 0) ≤ kf (L.getD y 0)) →
    Sm a (t + 1) L (insD kf a j L) ∧ Srt kf a (t + 1) (insD kf a j L)
  | 0, L, ha, hj, ht, h1, h2 => ⟨Sm.refl _ _ _, fun x y hx hxy hy => by
      show kf (L.getD x 0) ≤ kf (L.getD y 0)
      by_cases e : x = y
      · rw [e]; exact Nat.le_refl _
      · by_cases ex : x = 0
        · rw [ex]; exact h2 y (by omega) (by omega)
        · exact h1 x y hx hxy (by omega) ex (by omega)⟩
  | j + 1, L, ha, hj, ht, h1, h2 => by
    unfold insD
    split
    · rename_i hc
      have hg := swp_get (L := L) (i := j + 1) (j := j) (by omega) (by omega)
      have ih := insD_ok (a := a) (t := t) j (L := swp L (j + 1) j) (by omega) (by omega) (by rw [swp_len]; exact ht) (fun x y hx hxy hy hxj hyj => by
          rw [hg, hg, if_neg hxj, if_neg hyj]
          by_cases ex : x = j + 1
          · rw [if_pos ex]
            by_cases ey : y = j + 1
            · rw [if_pos ey]; exact Nat.le_refl _
            · rw [if_neg ey]; exact h1 j y (by omega) (by omega) hy (by omega) ey
          · rw [if_neg ex]
            by_cases ey : y = j + 1
            · rw [if_pos ey]; exact h1 x j hx (by omega) (by omega) ex (by omega)
            · rw [if_neg ey]; exact h1 x y hx hxy hy ex ey) (fun y hy hyt => by
          rw [hg, hg, if_pos rfl, if_neg (by omega)]
          by_cases ey : y = j + 1
          · rw [if_pos ey]; omega
          · rw [if_neg ey]; exact h2 y (by omega) hyt)
      exact ⟨(Sm.swp (by omega) (by omega) (by omega) (by omega) (by omega)).trans ih.1, ih.2⟩
    · rename_i hc
      refine ⟨Sm.refl _ _ _, fun x y hx hxy hy => ?_⟩
      by_cases e : x = y
      · rw [e]; exact Nat.le_refl _
      by_cases ex : x = j + 1
      · rw [ex]; exact h2 y (by omega) (by omega)
      by_cases ey : y = j + 1
      · rw [ey]
        have h3 : kf (L.getD j 0) ≤ kf (L.getD (j + 1) 0) := by
          refine Nat.le_of_not_lt fun hq => hc ⟨by omega, hq⟩
        exact Nat.le_trans (h1 x j hx (by omega) (by omega) (by omega) (by omega)) h3
      · exact h1 x y hx hxy (by omega) ex ey
def isI (kf : Nat → Nat) (a : Nat) (L : List Nat) : Nat → List Nat
  | 0 => L
  | k + 1 => insD kf a (a + 1 + k) (isI kf a L k)
/-- From a on, below b. -/
def insS (kf : Nat → Nat) (a b : Nat) (L : List Nat) : List Nat := isI kf a L (b - (a + 1))
theorem isI_ok {a : Nat} {L : List Nat} : ∀ k, a + 1 + k ≤ L.length → Sm a (a + 1 + k) L (isI kf a L k) ∧ Srt kf a (a + 1 + k) (isI kf a L k)
  | 0, h => ⟨Sm.refl _ _ _, fun x y h1 h2 h3 => by
      have : x = y := by omega
      rw [this]; exact Nat.le_refl _⟩
  | k + 1, h => by
    obtain ⟨h1, h2⟩ := isI_ok (a := a) (L := L) k (by omega)
    have h3 := insD_ok (kf := kf) (a := a) (t := a + 1 + k) (a + 1 + k) (L := isI kf a L k) (by omega) (Nat.le_refl _) (by rw [h1.len]; omega) (fun x y hx hxy hy hxj hyj => h2 x y hx hxy (by omega)) (fun y hy hyt => by omega)
    exact ⟨(h1.wide (Nat.le_refl _) (by omega)).trans h3.1, h3.2⟩
theorem insS_ok {a b : Nat} {L : List Nat} (hb : b ≤ L.length) : Sm a b L (insS kf a b L) ∧ Srt kf a b (insS kf a b L) := by
  unfold insS
  by_cases h : a + 1 ≤ b
  · have := isI_ok (kf := kf) (a := a) (L := L) (b - (a + 1)) (by omega)
    rw [show a + 1 + (b - (a + 1)) = b by omega] at this
    exact this
  · rw [show b - (a + 1) = 0 by omega]
    exact ⟨Sm.refl _ _ _, fun x y h1 h2 h3 => by
      have : x = y := by omega
      rw [this]; exact Nat.le_refl _⟩
/-! Blocks that change places. -/
def sxR (a b : Nat) (L : List Nat) : Nat → List Nat
  | 0 => L
  | k + 1 => swp (sxR a b L k) (a + k) (b + k)
theorem sxR_len (a b : Nat) (L : List Nat) : ∀ k, (sxR a b L k).length = L.length
  | 0 => rfl
  | k + 1 => by rw [sxR, swp_len, sxR_len a b L k]
theorem sxR_get {a b : Nat} {L : List Nat} : ∀ k, a + k ≤ b → b + k ≤ L.length → ∀ x, (sxR a b L k).getD x 0 = if a ≤ x ∧ x < a + k then L.getD (b + (x - a)) 0 else if b ≤ x ∧ x < b + k then L.getD (a + (x - b)) 0 else L.getD x 0
  | 0, _, _, x => by rw [if_neg (by omega), if_neg (by omega)]; rfl
  | k + 1, h1, h2, x => by
    have ih := sxR_get (a := a) (b := b) (L := L) k (by omega) (by omega)
    rw [sxR, swp_get (by rw [sxR_len]; omega) (by rw [sxR_len]; omega), ih, ih, ih]
    by_cases e1 : x = b + k
    · rw [if_pos e1, if_neg (show ¬(a ≤ a + k ∧ a + k < a + k) by omega), if_neg (show ¬(b ≤ a + k ∧ a + k < b + k) by omega), if_neg (show ¬(a ≤ x ∧ x < a + (k + 1)) by omega), if_pos (show b ≤ x ∧ x < b + (k + 1) by omega)]
      congr 1; omega
    · rw [if_neg e1]
      by_cases e2 : x = a + k
      · rw [if_pos e2, if_neg (show ¬(a ≤ b + k ∧ b + k < a + k) by omega), if_neg (show ¬(b ≤ b + k ∧ b + k < b + k) by omega), if_pos (show a ≤ x ∧ x < a + (k + 1) by omega)]
        congr 1; omega
      · rw [if_neg e2]
        by_cases e3 : a ≤ x ∧ x < a + k
        · rw [if_pos e3, if_pos (by omega)]
        · rw [if_neg e3, if_neg (show ¬(a ≤ x ∧ x < a + (k + 1)) by omega)]
          by_cases e4 : b ≤ x ∧ x < b + k
          · rw [if_pos e4, if_pos (by omega)]
          · rw [if_neg e4, if_neg (show ¬(b ≤ x ∧ x < b + (k + 1)) by omega)]
theorem sxR_sm {a b lo hi : Nat} {L : List Nat} : ∀ k, a + k ≤ b → b + k ≤ L.length → lo ≤ a → b + k ≤ hi → hi ≤ L.length → Sm lo hi L (sxR a b L k)
  | 0, _, _, _, _, _ => Sm.refl _ _ _
  | k + 1, h1, h2, h3, h4, h5 => (sxR_sm k (by omega) (by omega) h3 (by omega) h5).trans (Sm.swp (by omega) (by omega) (by omega) (by omega) (by rw [sxR_len]; exact h5))
/-- What comes of two blocks that change places. -/
def rtG (a m b : Nat) (L : List Nat) (x : Nat) : Nat := if a ≤ x ∧ x < b then (if x < a + (b - m) then L.getD (m + (x - a)) 0 else L.getD (a + (x - (a + (b - m)))) 0) else L.getD x 0
def rotF : Nat → Nat → Nat → Nat → List Nat → List Nat
  | 0, _, _, _, L => L
  | f + 1, m, i, j, L => if i = j then sxR (m - i) m L i else if j < i then rotF f m (i - j) j (sxR (m - i) m L j) else rotF f m i (j - i) (sxR (m - i) (m + j - i) L i)
theorem rotF_ok : ∀ (f : Nat) {m i j : Nat} {L : List Nat}, 0 < i → 0 < j → i ≤ m → m + j ≤ L.length → i + j ≤ f → (∀ x, (rotF f m i j L).getD x 0 = rtG (m - i) m (m + j) L x) ∧ Sm (m - i) (m + j) L (rotF f m i j L)
  | 0, m, i, j, L, hi, hj, _, _, hf => by omega
  | f + 1, m, i, j, L, hi, hj, him, hm, hf => by
    unfold rotF
    by_cases e : i = j
    · subst e
      rw [if_pos rfl]
      refine ⟨fun x => ?_, sxR_sm i (by omega) hm (Nat.le_refl _) (Nat.le_refl _) hm⟩
      rw [sxR_get i (by omega) hm]
      unfold rtG
      by_cases e1 : m - i ≤ x ∧ x < m - i + i
      · rw [if_pos e1, if_pos (by omega), if_pos (by omega)]
      · rw [if_neg e1]
        by_cases e2 : m ≤ x ∧ x < m + i
        · rw [if_pos e2, if_pos (by omega), if_neg (by omega)]
          congr 1; omega
        · rw [if_neg e2, if_neg (by omega)]
    · rw [if_neg e]
      by_cases hji : j < i
      · rw [if_pos hji]
        have hg := sxR_get (a := m - i) (b := m) (L := L) j (by omega) hm
        have ih := rotF_ok f (m := m) (i := i - j) (j := j) (L := sxR (m - i) m L j) (by omega) hj (by omega) (by rw [sxR_len]; exact hm) (by omega)
        refine ⟨fun x => ?_, (sxR_sm j (by omega) hm (Nat.le_refl _) (Nat.le_refl _) hm).trans (ih.2.wide (by omega) (Nat.le_refl _))⟩
        rw [ih.1]
        unfold rtG
        by_cases e1 : m - (i - j) ≤ x ∧ x < m + j
        · rw [if_pos e1, if_pos (show m - i ≤ x ∧ x < m + j by omega)]
          by_cases e2 : x < m - (i - j) + (m + j - m)
          · rw [if_pos e2, hg, if_neg (by omega), if_pos (by omega), if_neg (show ¬ (x < m - i + (m + j - m)) by omega)]
            congr 1; omega
          · rw [if_neg e2, hg, if_neg (by omega), if_neg (by omega), if_neg (show ¬ (x < m - i + (m + j - m)) by omega)]
            congr 1; omega
        · rw [if_neg e1, hg]
          by_cases e2 : m - i ≤ x ∧ x < m - i + j
          · rw [if_pos e2, if_pos (by omega), if_pos (by omega)]
          · rw [if_neg e2, if_neg (by omega), if_neg (by omega)]
      · rw [if_neg hji]
        have hg := sxR_get (a := m - i) (b := m + j - i) (L := L) i (by omega) (by omega)
        have ih := rotF_ok f (m := m) (i := i) (j := j - i) (L := sxR (m - i) (m + j - i) L i) hi (by omega) him (by rw [sxR_len]; omega) (by omega)
        refine ⟨fun x => ?_, (sxR_sm (lo := m - i) (hi := m + j) i (by omega) (by omega) (Nat.le_refl _) (by omega) hm).trans (ih.2.wide (Nat.le_refl _) (by omega))⟩
        rw [ih.1]
        unfold rtG
        by_cases e1 : m - i ≤ x ∧ x < m + (j - i)
        · rw [if_pos e1, if_pos (show m - i ≤ x ∧ x < m + j by omega)]
          by_cases e2 : x < m - i + (m + (j - i) - m)
          · rw [if_pos e2, hg, if_neg (by omega), if_neg (by omega), if_pos (show x < m - i + (m + j - m) by omega)]
          · rw [if_neg e2, hg, if_pos (by omega), if_pos (show x < m - i + (m + j - m) by omega)]
            congr 1; omega
        · rw [if_neg e1, hg, if_neg (by omega)]
          by_cases e2 : m + j - i ≤ x ∧ x < m + j - i + i
          · rw [if_pos e2, if_pos (by omega), if_neg (by omega)]
            congr 1; omega
          · rw [if_neg e2, if_neg (by omega)]
def rotS (a m b : Nat) (L : List Nat) : List Nat := rotF (b - a) m (m - a) (b - m) L
theorem rotS_ok {a m b : Nat} {L : List Nat} (h1 : a < m) (h2 : m < b) (h3 : b ≤ L.length) : (∀ x, (rotS a m b L).getD x 0 = rtG a m b L x) ∧ Sm a b L (rotS a m b L) := by
  have := rotF_ok (b - a) (m := m) (i := m - a) (j := b - m) (L := L) (by omega) (by omega) (by omega) (by omega) (by omega)
  rw [show m - (m - a) = a by omega, show m + (b - m) = b by omega] at this
  exact this
/-! The first that is not such. -/
def fstF (P : Nat → Bool) (lo hi : Nat) : Nat := lo + ((List.range (hi - lo)).takeWhile fun k => P (lo + k)).length
theorem tw_at {P : Nat → Bool} : ∀ (l : List Nat), (l.takeWhile P).length ≤ l.length ∧ (∀ k, k < (l.takeWhile P).length → P (l.getD k 0) = true) ∧ ((l.takeWhile P).length < l.length → P (l.getD (l.takeWhile P).length 0) = false)
  | [] => ⟨Nat.le_refl _, fun k h => absurd h (Nat.not_lt_zero _), fun h => absurd h (Nat.not_lt_zero _)⟩
  | x :: r => by
    obtain ⟨h1, h2, h3⟩ := tw_at (P := P) r
    by_cases hx : P x = true
    · rw [List.takeWhile_cons_of_pos hx]
      refine ⟨by simp; exact h1, fun k hk => ?_, fun hl => ?_⟩
      · cases k with
        | zero => simpa using hx
        | succ k => simpa using h2 k (by simpa using hk)
      · simpa using h3 (by simpa using hl)
    · rw [List.takeWhile_cons_of_neg hx]
      exact ⟨Nat.zero_le _, fun k h => absurd h (Nat.not_lt_zero _), fun _ => by simpa using hx⟩
theorem fstF_ok {P : Nat → Bool} {lo hi : Nat} (h : lo ≤ hi) : lo ≤ fstF P lo hi ∧ fstF P lo hi ≤ hi ∧ (∀ x, lo ≤ x → x < fstF P lo hi → P x = true) ∧ (fstF P lo hi < hi → P (fstF P lo hi) = false) := by
  obtain ⟨h1, h2, h3⟩ := tw_at (P := fun k => P (lo + k)) (List.range (hi - lo))
  rw [List.length_range] at h1 h3
  unfold fstF
  have hg : ∀ k, k < hi - lo → (List.range (hi - lo)).getD k 0 = k := fun k hk => by simp [hk]
  refine ⟨by omega, by omega, fun x hx hx2 => ?_, fun hl => ?_⟩
  · have := h2 (x - lo) (by omega)
    rw [hg _ (by omega)] at this
    rwa [show lo + (x - lo) = x by omega] at this
  · have := h3 (by omega)
    rwa [hg _ (by omega)] at this
end Go.Proofs.Ytdbngpkbamhbeaa
