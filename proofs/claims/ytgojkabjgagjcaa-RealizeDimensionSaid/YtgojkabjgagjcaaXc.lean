import Derived.Test.YtgojkabjgagjcaaFe
import Derived.Test.YtgojkabjgagjcaaFf
import Derived.Test.YtgojkabjgagjcaaEngZd
import Derived.Test.YtgojkabjgagjcaaEngT
set_option linter.unusedSimpArgs false
set_option linter.unusedVariables false
set_option linter.unusedSectionVars false
set_option maxRecDepth 20000
namespace Go.Proofs.Ytgojkabjgagjcaa
attribute [local irreducible] QOp aL aC qL
/-- b is reached from a. -/
inductive Reach (l : List (Nat × Nat)) : Nat → Nat → Prop where
  | one {a b : Nat} (h : (a, b) ∈ l) : Reach l a b
  | more {a c b : Nat} (h : Reach l a c) (h2 : (c, b) ∈ l) : Reach l a b
theorem Reach.trans {l : List (Nat × Nat)} {a b c : Nat} (h : Reach l a b) (h2 : Reach l b c) : Reach l a c := by
  induction h2 with
  | one h3 => exact .more h h3
  | more _ h3 ih => exact .more ih h3
theorem Reach.mono {l l' : List (Nat × Nat)} (hl : ∀ p ∈ l, p ∈ l') {a b : Nat} (h : Reach l a b) : Reach l' a b := by
  induction h with
  | one h3 => exact .one (hl _ h3)
  | more _ h3 ih => exact .more ih (hl _ h3)
theorem getD_set3 (l : List Nat) (x v b : Nat) (hx : x < l.length) : (l.set x v).getD b 0 = if b = x then v else l.getD b 0 := by
  simp only [List.getD_eq_getElem?_getD, List.getElem?_set]
  by_cases h : x = b
  · subst h; simp [hx]
  · simp [h, Ne.symm h]
theorem lt_set {ns : List Nat} {b v x y : Nat} (hb : b < ns.length) : lt (ns.set b v) x y = if y = b then v.testBit x else lt ns x y := by
  unfold lt
  rw [getD_set3 _ _ _ _ hb]
  split <;> rfl
/-! The pairs, one by one. -/
theorem stA_iff {n : Nat} {l : List (Nat × Nat)} (hl : ∀ p ∈ l, p.1 < n ∧ p.2 < n) (x y : Nat) : ∀ k, k ≤ l.length → (lt (iterN k (stA l) (List.replicate n 0)) x y = true ↔ ∃ i, i < k ∧ l.getD i (0, 0) = (x, y))
  | 0, _ => by
    constructor
    · intro h
      unfold lt iterN at h
      rw [List.getD_eq_getElem?_getD, List.getElem?_replicate] at h
      split at h <;> simp at h
    · rintro ⟨i, hi, _⟩; omega
  | k + 1, hk => by
    have ih := stA_iff hl x y k (by omega)
    have hv : Vld n (iterN k (stA l) (List.replicate n 0)) := iterN_inv k (Vld.rep n) fun i y hi hy => stA_vld hl (by omega) hy
    have hm : (l.getD k (0, 0)).2 < n := by
      rw [List.getD_eq_getElem?_getD, List.getElem?_eq_getElem (by omega)]
      exact (hl _ (List.getElem_mem _)).2
    show lt (stA l k (iterN k (stA l) (List.replicate n 0))) x y = true ↔ _
    generalize iterN k (stA l) (List.replicate n 0) = ns at *
    unfold stA
    rw [lt_set (by have := hv.1; omega)]
    have e : (if y = (l.getD k (0, 0)).2 then (ns.getD (l.getD k (0, 0)).2 0 ||| 2 ^ (l.getD k (0, 0)).1).testBit x else lt ns x y) = true ↔ lt ns x y = true ∨ l.getD k (0, 0) = (x, y) := by
      by_cases hy : y = (l.getD k (0, 0)).2
      · subst hy
        rw [if_pos rfl, Nat.testBit_or, Nat.testBit_two_pow, Bool.or_eq_true, decide_eq_true_eq]
        unfold lt
        constructor
        · rintro (h | h)
          · exact .inl h
          · exact .inr (Prod.ext h rfl)
        · rintro (h | h)
          · exact .inl h
          · exact .inr (by rw [h])
      · rw [if_neg hy]
        constructor
        · exact .inl
        · rintro (h | h)
          · exact h
          · exact absurd (by rw [h]) hy
    rw [e, ih]
    constructor
    · rintro (⟨i, hi, h⟩ | h)
      · exact ⟨i, by omega, h⟩
      · exact ⟨k, by omega, h⟩
    · rintro ⟨i, hi, h⟩
      by_cases hik : i = k
      · subst hik; exact .inr h
      · exact .inl ⟨i, by omega, h⟩
theorem stA_mem {n : Nat} {l : List (Nat × Nat)} (hl : ∀ p ∈ l, p.1 < n ∧ p.2 < n) (x y : Nat) : lt (iterN l.length (stA l) (List.replicate n 0)) x y = true ↔ (x, y) ∈ l := by
  rw [stA_iff hl x y l.length (Nat.le_refl _)]
  constructor
  · rintro ⟨i, hi, h⟩
    rw [List.getD_eq_getElem?_getD, List.getElem?_eq_getElem hi] at h
    rw [← h]
    exact List.getElem_mem hi
  · intro h
    obtain ⟨i, hi, h⟩ := List.getElem_of_mem h
    exact ⟨i, hi, by rw [List.getD_eq_getElem?_getD, List.getElem?_eq_getElem hi]; exact h⟩
/-! One round. -/
theorem stB_lt {n k : Nat} {ns : List Nat} (hv : Vld n ns) (x y : Nat) : ∀ b, b ≤ n → lt (iterN b (stB k) ns) x y = (lt ns x y || (decide (y < b) && (lt ns k y && lt ns x k)))
  | 0, _ => by simp [iterN]
  | b + 1, hb => by
    have ih := fun x y => stB_lt (k := k) hv x y b (by omega)
    have hw : Vld n (iterN b (stB k) ns) := rowB_vld hv
    have h1 : lt (iterN b (stB k) ns) k b = lt ns k b := by rw [ih]; simp
    have h2 : lt (iterN b (stB k) ns) x b = lt ns x b := by rw [ih]; simp
    have h3 : lt (iterN b (stB k) ns) x k = lt ns x k := by
      rw [ih]
      cases lt ns x k <;> simp
    have h4 := ih x y
    show lt (stB k b (iterN b (stB k) ns)) x y = _
    generalize iterN b (stB k) ns = m at *
    unfold stB
    rw [h1]
    cases hkb : lt ns k b
    · rw [if_neg (by decide), h4]
      by_cases hyb : y = b
      · subst hyb; simp [hkb]
      · rw [show decide (y < b + 1) = decide (y < b) from decide_eq_decide.2 (by omega)]
    · rw [if_pos rfl, lt_set (by have := hw.1; omega)]
      by_cases hyb : y = b
      · subst hyb
        rw [if_pos rfl, Nat.testBit_or]
        have e1 : (m.getD y 0).testBit x = lt ns x y := h2
        have e2 : (m.getD k 0).testBit x = lt ns x k := h3
        rw [e1, e2, hkb, decide_eq_true (by omega)]
        simp
      · rw [if_neg hyb, h4, show decide (y < b + 1) = decide (y < b) from decide_eq_decide.2 (by omega)]
theorem rowB_lt {n k : Nat} {ns : List Nat} (hv : Vld n ns) {x y : Nat} (hy : y < n) : lt (rowB n k ns) x y = (lt ns x y || (lt ns k y && lt ns x k)) := by
  unfold rowB
  rw [stB_lt hv x y n (Nat.le_refl n), decide_eq_true hy, Bool.true_and]
structure War (n : Nat) (l : List (Nat × Nat)) (k : Nat) (ns : List Nat) : Prop where
  vld : Vld n ns
  sound : ∀ x y, y < n → lt ns x y = true → Reach l x y
  keep : ∀ x y, (x, y) ∈ l → lt ns x y = true
  tr : ∀ c, c < k → ∀ x y, y < n → lt ns x c = true → lt ns c y = true → lt ns x y = true
theorem war {n : Nat} {l : List (Nat × Nat)} (hl : ∀ p ∈ l, p.1 < n ∧ p.2 < n) : ∀ k, k ≤ n → War n l k (iterN k (rowB n) (iterN l.length (stA l) (List.replicate n 0)))
  | 0, _ => by
    have hv : Vld n (iterN l.length (stA l) (List.replicate n 0)) := iterN_inv _ (Vld.rep n) fun i y hi hy => stA_vld hl (by omega) hy
    exact ⟨hv, fun x y _ h => .one ((stA_mem hl x y).1 h), fun x y h => (stA_mem hl x y).2 h, fun c hc => by omega⟩
  | k + 1, hk => by
    have ih := war hl k (by omega)
    show War n l (k + 1) (rowB n k (iterN k (rowB n) (iterN l.length (stA l) (List.replicate n 0))))
    generalize iterN k (rowB n) (iterN l.length (stA l) (List.replicate n 0)) = ns at *
    have e := fun x y (hy : y < n) => rowB_lt (k := k) ih.vld (x := x) (y := y) hy
    refine ⟨rowB_vld ih.vld, fun x y hy h => ?_, fun x y h => ?_, fun c hc x y hy h1 h2 => ?_⟩
    · rw [e x y hy, Bool.or_eq_true, Bool.and_eq_true] at h
      rcases h with h | ⟨h1, h2⟩
      · exact ih.sound x y hy h
      · exact (ih.sound x k (by omega) h2).trans (ih.sound k y hy h1)
    · rw [e x y (hl _ h).2, ih.keep x y h]; rfl
    · have hcn : c < n := by omega
      rw [e x c hcn, Bool.or_eq_true, Bool.and_eq_true] at h1
      rw [e c y hy, Bool.or_eq_true, Bool.and_eq_true] at h2
      rw [e x y hy, Bool.or_eq_true, Bool.and_eq_true]
      have tr := ih.tr
      by_cases hck : c = k
      · subst hck
        have g1 : lt ns x c = true := by
          rcases h1 with h1 | ⟨_, h1⟩ <;> exact h1
        have g2 : lt ns c y = true := by
          rcases h2 with h2 | ⟨h2, _⟩ <;> exact h2
        exact .inr ⟨g2, g1⟩
      · have hck : c < k := by omega
        have hkn : k < n := by omega
        rcases h1 with h1 | ⟨h1, h1'⟩
        · rcases h2 with h2 | ⟨h2, h2'⟩
          · exact .inl (tr c hck x y hy h1 h2)
          · exact .inr ⟨h2, tr c hck x k hkn h1 h2'⟩
        · rcases h2 with h2 | ⟨h2, h2'⟩
          · exact .inr ⟨tr c hck k y hy h1 h2, h1'⟩
          · exact .inr ⟨h2, h1'⟩
theorem clos_vld {n : Nat} {l : List (Nat × Nat)} (hl : ∀ p ∈ l, p.1 < n ∧ p.2 < n) : Vld n (clos n l) := (war hl n (Nat.le_refl n)).vld
theorem Reach.lt {n : Nat} {l : List (Nat × Nat)} (hl : ∀ p ∈ l, p.1 < n ∧ p.2 < n) {x y : Nat} (h : Reach l x y) : x < n ∧ y < n := by
  induction h with
  | one h => exact hl _ h
  | more _ h ih => exact ⟨ih.1, (hl _ h).2⟩
/-- The order of pairs. -/
theorem clos_iff {n : Nat} {l : List (Nat × Nat)} (hl : ∀ p ∈ l, p.1 < n ∧ p.2 < n) {x y : Nat} (hy : y < n) : Go.Proofs.Ytgojkabjgagjcaa.lt (clos n l) x y = true ↔ Reach l x y := by
  have w := war hl n (Nat.le_refl n)
  constructor
  · exact w.sound x y hy
  · intro h
    induction h with
    | one h => exact w.keep _ _ h
    | more h1 h2 ih =>
      have hc := (hl _ h2).1
      exact w.tr _ hc _ _ hy (ih hc) (w.keep _ _ h2)
theorem irr_iff {n : Nat} {l : List (Nat × Nat)} (hl : ∀ p ∈ l, p.1 < n ∧ p.2 < n) : irr n (clos n l) = true ↔ ∀ q, q < n → ¬ Reach l q q := by
  unfold irr
  simp only [List.all_eq_true, List.mem_range, Bool.not_eq_true']
  constructor
  · intro h q hq hr
    have := h q hq
    rw [(clos_iff hl hq).2 hr] at this
    cases this
  · intro h q hq
    cases hc : Go.Proofs.Ytgojkabjgagjcaa.lt (clos n l) q q
    · rfl
    · exact absurd ((clos_iff hl hq).1 hc) (h q hq)
end Go.Proofs.Ytgojkabjgagjcaa
set_option linter.unusedSimpArgs false
set_option linter.unusedVariables false
set_option linter.unusedSectionVars false
set_option maxRecDepth 20000
namespace Go.Proofs.Ytgojkabjgagjcaa
attribute [local irreducible] QOp aL aC qL
def swp (L : List Nat) (i j : Nat) : List Nat := (L.set i (L.getD j 0)).set j (L.getD i 0)
theorem swp_len (L : List Nat) (i j : Nat) : (swp L i j).length = L.length := by simp [swp]
theorem swp_get {L : List Nat} {i j : Nat} (hi : i < L.length) (hj : j < L.length) (x : Nat) : (swp L i j).getD x 0 = if x = j then L.getD i 0 else if x = i then L.getD j 0 else L.getD x 0 := by
  unfold swp
  rw [getD_set3 _ _ _ _ (by simpa using hj), getD_set3 _ _ _ _ hi]
theorem swp_perm {L : List Nat} {i j : Nat} (hi : i < L.length) (hj : j < L.length) : (swp L i j).Perm L := by
  have h := Array.swap_perm (xs := L.toArray) (i := i) (j := j) (by simpa using hi) (by simpa using hj)
  have e : (L.toArray.swap i j (by simpa using hi) (by simpa using hj)).toList = swp L i j := by
    unfold swp
    simp [Array.swap, hi, hj]
  have h2 := h.toList
  rw [e] at h2
  simpa using h2
/-- Only what lies between a and b is laid anew. -/
structure Sm (a b : Nat) (L L' : List Nat) : Prop where
  len : L'.length = L.length
  out : ∀ x, x < a ∨ b ≤ x → L'.getD x 0 = L.getD x 0
  im : ∀ x, a ≤ x → x < b → ∃ y, a ≤ y ∧ y < b ∧ L'.getD x 0 = L.getD y 0
  pm : L'.Perm L
theorem Sm.refl (a b : Nat) (L : List Nat) : Sm a b L L := ⟨rfl, fun _ _ => rfl, fun x h1 h2 => ⟨x, h1, h2, rfl⟩, List.Perm.refl L⟩
theorem Sm.trans {a b : Nat} {L L' L'' : List Nat} (h : Sm a b L L') (g : Sm a b L' L'') : Sm a b L L'' := by
  refine ⟨g.len.trans h.len, fun x hx => (g.out x hx).trans (h.out x hx), fun x h1 h2 => ?_, g.pm.trans h.pm⟩
  obtain ⟨y, h3, h4, h5⟩ := g.im x h1 h2
  obtain ⟨z, h6, h7, h8⟩ := h.im y h3 h4
  exact ⟨z, h6, h7, h5.trans h8⟩
theorem Sm.wide {a b a' b' : Nat} {L L' : List Nat} (h : Sm a b L L') (ha : a' ≤ a) (hb : b ≤ b') : Sm a' b' L L' := by
  refine ⟨h.len, fun x hx => h.out x (by omega), fun x h1 h2 => ?_, h.pm⟩
  by_cases hx : a ≤ x ∧ x < b
  · obtain ⟨y, h3, h4, h5⟩ := h.im x hx.1 hx.2
    exact ⟨y, by omega, by omega, h5⟩
  · exact ⟨x, h1, h2, h.out x (by omega)⟩
theorem Sm.swp {a b i j : Nat} {L : List Nat} (h1 : a ≤ i) (h2 : i < b) (h3 : a ≤ j) (h4 : j < b) (hb : b ≤ L.length) : Sm a b L (swp L i j) := by
  have hg := swp_get (L := L) (i := i) (j := j) (by omega) (by omega)
  refine ⟨swp_len L i j, fun x hx => ?_, fun x hx hx2 => ?_, swp_perm (by omega) (by omega)⟩
  · rw [hg, if_neg (by omega), if_neg (by omega)]
  · rw [hg]
    by_cases e : x = j
    · rw [if_pos e]; exact ⟨i, h1, h2, rfl⟩
    · rw [if_neg e]
      by_cases e2 : x = i
      · rw [if_pos e2]; exact ⟨j, h3, h4, rfl⟩
      · rw [if_neg e2]; exact ⟨x, hx, hx2, rfl⟩
variable {kf : Nat → Nat}
/-- Sorted between a and b. -/
def Srt (kf : Nat → Nat) (a b : Nat) (L : List Nat) : Prop := ∀ x y, a ≤ x → x ≤ y → y < b → kf (L.getD x 0) ≤ kf (L.getD y 0)
theorem Srt.sub {a b a' b' : Nat} {L : List Nat} (h : Srt kf a b L) (ha : a ≤ a') (hb : b' ≤ b) : Srt kf a' b' L := fun x y h1 h2 h3 => h x y (by omega) h2 (by omega)
theorem Srt.out {a b c d : Nat} {L L' : List Nat} (h : Srt kf a b L) (g : Sm c d L L') (hd : b ≤ c ∨ d ≤ a) : Srt kf a b L' := fun x y h1 h2 h3 => by
  rw [g.out x (by omega), g.out y (by omega)]; exact h x y h1 h2 h3
/-! Insertion. -/
def insD (kf : Nat → Nat) (a : Nat) : Nat → List Nat → List Nat
  | 0, L => L
  | j + 1, L => if a < j + 1 ∧ kf (L.getD (j + 1) 0) < kf (L.getD j 0) then insD kf a j (swp L (j + 1) j) else L
def isI (kf : Nat → Nat) (a : Nat) (L : List Nat) : Nat → List Nat
  | 0 => L
  | k + 1 => insD kf a (a + 1 + k) (isI kf a L k)
/-- From a on, below b. -/
def insS (kf : Nat → Nat) (a b : Nat) (L : List Nat) : List Nat := isI kf a L (b - (a + 1))
/-! Blocks that change places. -/
def sxR (a b : Nat) (L : List Nat) : Nat → List Nat
  | 0 => L
  | k + 1 => swp (sxR a b L k) (a + k) (b + k)
/-- What comes of two blocks that change places. -/
def rtG (a m b : Nat) (L : List Nat) (x : Nat) : Nat := if a ≤ x ∧ x < b then (if x < a + (b - m) then L.getD (m + (x - a)) 0 else L.getD (a + (x - (a + (b - m)))) 0) else L.getD x 0
def rotF : Nat → Nat → Nat → Nat → List Nat → List Nat
  | 0, _, _, _, L => L
  | f + 1, m, i, j, L => if i = j then sxR (m - i) m L i else if j < i then rotF f m (i - j) j (sxR (m - i) m L j) else rotF f m i (j - i) (sxR (m - i) (m + j - i) L i)
def rotS (a m b : Nat) (L : List Nat) : List Nat := rotF (b - a) m (m - a) (b - m) L
/-! The first that is not such. -/
def fstF (P : Nat → Bool) (lo hi : Nat) : Nat := lo + ((List.range (hi - lo)).takeWhile fun k => P (lo + k)).length
end Go.Proofs.Ytgojkabjgagjcaa
set_option linter.unusedSimpArgs false
set_option linter.unusedVariables false
set_option linter.unusedSectionVars false
set_option maxRecDepth 20000
namespace Go.Proofs.Ytgojkabjgagjcaa
attribute [local irreducible] QOp aL aC qL
variable {kf : Nat → Nat}
def upS (L : List Nat) (a : Nat) : Nat → List Nat
  | 0 => L
  | k + 1 => swp (upS L a k) (a + k) (a + k + 1)
def dmS (L : List Nat) (m : Nat) : Nat → List Nat
  | 0 => L
  | k + 1 => swp (dmS L m k) (m - k) (m - k - 1)
/-- Where the first half's rest begins. -/
def stM (kf : Nat → Nat) (a m b : Nat) (L : List Nat) : Nat :=
  fstF (fun c => !decide (kf (L.getD ((a + b) / 2 + m - 1 - c) 0) < kf (L.getD c 0))) (if (a + b) / 2 < m then (a + b) / 2 + m - b else a) (if (a + b) / 2 < m then (a + b) / 2 else m)
def i1M (kf : Nat → Nat) (a m b : Nat) (L : List Nat) : Nat := fstF (fun h => decide (kf (L.getD h 0) < kf (L.getD a 0))) m b
def i2M (kf : Nat → Nat) (a m _b : Nat) (L : List Nat) : Nat := fstF (fun h => !decide (kf (L.getD m 0) < kf (L.getD h 0))) a m
def ro1 (a m b : Nat) (L : List Nat) : List Nat := if a < m ∧ m < b then rotS a m b L else L
def symF (kf : Nat → Nat) : Nat → Nat → Nat → Nat → List Nat → List Nat
  | 0, _, _, _, L => L
  | f + 1, a, m, b, L =>
    if m - a = 1 then upS L a (i1M kf a m b L - 1 - a)
    else if b - m = 1 then dmS L m (m - i2M kf a m b L)
    else
      let s := stM kf a m b L
      let mid := (a + b) / 2
      let e := mid + m - s
      let L1 := ro1 s m e L
      let L2 := if a < s ∧ s < mid then symF kf f a s mid L1 else L1
      if mid < e ∧ e < b then symF kf f mid e b L2 else L2
end Go.Proofs.Ytgojkabjgagjcaa
set_option linter.unusedSimpArgs false
set_option linter.unusedVariables false
set_option linter.unusedSectionVars false
set_option maxRecDepth 20000
namespace Go.Proofs.Ytgojkabjgagjcaa
attribute [local irreducible] QOp aL aC qL
variable {kf : Nat → Nat}
def bkI (kf : Nat → Nat) (L : List Nat) : Nat → List Nat
  | 0 => L
  | k + 1 => insS kf (20 * k) (20 * k + 20) (bkI kf L k)
def stbB (kf : Nat → Nat) (n : Nat) (L : List Nat) : List Nat := insS kf (20 * (n / 20)) n (bkI kf L (n / 20))
def mgK (kf : Nat → Nat) (bs n : Nat) (L : List Nat) : Nat → List Nat
  | 0 => L
  | k + 1 => symF kf n (2 * bs * k) (2 * bs * k + bs) (2 * bs * k + 2 * bs) (mgK kf bs n L k)
def mgP (kf : Nat → Nat) (bs n : Nat) (L : List Nat) : List Nat :=
  if 2 * bs * (n / (2 * bs)) + bs < n then symF kf n (2 * bs * (n / (2 * bs))) (2 * bs * (n / (2 * bs)) + bs) n (mgK kf bs n L (n / (2 * bs))) else mgK kf bs n L (n / (2 * bs))
def mgA (kf : Nat → Nat) (n : Nat) (L : List Nat) : Nat → List Nat
  | 0 => stbB kf n L
  | t + 1 => mgP kf (20 * 2 ^ t) n (mgA kf n L t)
def tT (n : Nat) : Nat := fstF (fun t => decide (20 * 2 ^ t < n)) 0 n
/-- The list sorted. -/
def ssT (kf : Nat → Nat) (L : List Nat) : List Nat := mgA kf L.length L (tT L.length)
/-- In blocks of bs sorted. -/
def Bl (kf : Nat → Nat) (bs n : Nat) (L : List Nat) : Prop := ∀ q, Srt kf (bs * q) (min (bs * q + bs) n) L
end Go.Proofs.Ytgojkabjgagjcaa
set_option linter.unusedSimpArgs false
set_option linter.unusedVariables false
set_option linter.unusedSectionVars false
set_option maxRecDepth 20000
namespace Go.Proofs.Ytgojkabjgagjcaa
attribute [local irreducible] QOp aL aC qL
def badLen (n : Nat) (f : List Int) : Bool := decide ((f.length : Int) ≠ ((2 ^ n : Nat) : Int))
def badW (w : Int) : Bool := decide (w < 0) || decide (w > 1000)
def wchk (N : Int) (ls : List (List Int)) : Int := if N < 0 ∨ 6 < N then 2 else if ls.any (badLen N.toNat) = true then 1 else if ls.any (fun f => f.any badW) = true then 3 else 0

/-! The reference. -/
/-- Is one of the first k bad. -/
def anyTo {α : Type} (p : α → Bool) (l : List α) (k : Nat) : Bool := (l.take k).any p
end Go.Proofs.Ytgojkabjgagjcaa
set_option linter.unusedSimpArgs false
set_option linter.unusedVariables false
set_option linter.unusedSectionVars false
set_option maxRecDepth 20000
namespace Go.Proofs.Ytgojkabjgagjcaa
attribute [local irreducible] QOp aL aC qL
def sub (a b : Nat) : Bool := ndiff a b == 0
theorem sub_iff {a b : Nat} : sub a b = true ↔ ∀ i, a.testBit i = true → b.testBit i = true := by
  unfold sub; rw [beq_iff_eq]; exact ndiff_zero
theorem bit_odd (x j : Nat) : (x / 2 ^ j % 2 = 1) ↔ x.testBit j = true := by rw [Nat.testBit_eq_decide_div_mod_eq, decide_eq_true_eq]

def risesP (n : Nat) (f : List Int) : Bool := (List.range (2 ^ n)).all fun s => (List.range n).all fun p => !decide (f.getD (s ||| 2 ^ p) 0 < f.getD s 0)
def rising (n : Nat) (f : List Int) : Bool := (List.range (2 ^ n)).all fun a => (List.range (2 ^ n)).all fun b => !(sub a b && decide (f.getD a 0 > f.getD b 0))

/-! Walked. -/
end Go.Proofs.Ytgojkabjgagjcaa
set_option linter.unusedSimpArgs false
set_option linter.unusedVariables false
set_option linter.unusedSectionVars false
set_option maxRecDepth 20000
namespace Go.Proofs.Ytgojkabjgagjcaa
attribute [local irreducible] QOp aL aC qL
def obl (s : Nat) (r : Nat × Nat) : Bool := !sub r.1 s || sub r.2 s
def oba (l : List (Nat × Nat)) (s : Nat) : Bool := l.all (obl s)
/-- Rules of n marks. -/
structure Rls (n : Nat) (l : List (Nat × Nat)) : Prop where
  hn : n ≤ 10
  len : l.length ≤ 60
  lt : ∀ r ∈ l, r.1 < 2 ^ n ∧ r.2 < 2 ^ n
/-- What is the least that obeys. -/
structure IsCl (l : List (Nat × Nat)) (s r : Nat) : Prop where
  sup : sub s r = true
  ob : oba l r = true
  least : ∀ t, sub s t = true → oba l t = true → sub r t = true
def clo (n : Nat) (l : List (Nat × Nat)) (s : Nat) : Nat := ((List.range (2 ^ n)).filter fun t => sub s t && oba l t).foldl (fun x y => x &&& y) (2 ^ n - 1)
/-! What is wrong with rules. -/
def rlw (n : Int) (r : Int × Int) : Bool := decide (r.1 < 0 ∨ ((2 ^ n.toNat : Nat) : Int) ≤ r.1 ∨ r.2 < 0 ∨ ((2 ^ n.toNat : Nat) : Int) ≤ r.2)
def rlck (n : Int) (l : List (Int × Int)) : Int := if n < 0 ∨ 10 < n ∨ 60 < l.length then 2 else if l.any (rlw n) = true then 3 else 0
theorem rlck_no {n : Nat} {l : List (Int × Int)} (hn : n ≤ 10) (hl : l.length ≤ 60) (h : ∀ k, k < l.length → 0 ≤ (l.getD k (0, 0)).1 ∧ (l.getD k (0, 0)).1 < ((2 ^ n : Nat) : Int) ∧ 0 ≤ (l.getD k (0, 0)).2 ∧ (l.getD k (0, 0)).2 < ((2 ^ n : Nat) : Int)) : rlck n l = 0 := by
  unfold rlck
  rw [if_neg (by omega), if_neg]
  rw [List.any_eq_true]
  rintro ⟨r, hr, hw⟩
  obtain ⟨k, hk, rfl⟩ := List.getElem_of_mem hr
  unfold rlw at hw
  rw [decide_eq_true_eq, Int.toNat_natCast] at hw
  have := h k hk
  rw [List.getD_eq_getElem?_getD, List.getElem?_eq_getElem hk] at this
  dsimp only [Option.getD] at this
  omega
end Go.Proofs.Ytgojkabjgagjcaa
