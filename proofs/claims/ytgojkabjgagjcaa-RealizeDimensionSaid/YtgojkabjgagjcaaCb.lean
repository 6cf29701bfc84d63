import Derived.Test.YtgojkabjgagjcaaCa
set_option linter.unusedSimpArgs false
set_option linter.unusedVariables false
set_option linter.unusedSectionVars false
set_option maxRecDepth 20000
namespace Go.Proofs.Ytgojkabjgagjcaa
/-- The first k places written over. -/
def rlb (p q : Nat) (c : List Nat) : Nat → List Nat
  | 0 => c
  | k + 1 => if c.getD k 0 = q then (rlb p q c k).set k p else rlb p q c k
theorem rlb_len (p q : Nat) (c : List Nat) : ∀ k, (rlb p q c k).length = c.length
  | 0 => rfl
  | k + 1 => by rw [rlb]; split; rw [List.length_set, rlb_len p q c k]; exact rlb_len p q c k
theorem set_get {c : List Nat} {k p i : Nat} (hk : k < c.length) : (c.set k p).getD i 0 = if i = k then p else c.getD i 0 := by
  rw [List.getD_eq_getElem?_getD, List.getElem?_set]
  by_cases h : k = i
  · subst h; rw [if_pos rfl, if_pos hk, if_pos rfl]; rfl
  · rw [if_neg h, if_neg (fun e => h e.symm), ← List.getD_eq_getElem?_getD]
theorem rlb_get {p q : Nat} {c : List Nat} {i : Nat} : ∀ k, k ≤ c.length → (rlb p q c k).getD i 0 = if i < k ∧ c.getD i 0 = q then p else c.getD i 0
  | 0, _ => by rw [rlb, if_neg (by omega)]
  | k + 1, h => by
    have ih := rlb_get (p := p) (q := q) (c := c) (i := i) k (by omega)
    rw [rlb]
    by_cases hq : c.getD k 0 = q
    · rw [if_pos hq, set_get (by rw [rlb_len]; omega), ih]
      by_cases hi : i = k
      · subst hi; rw [if_pos rfl, if_pos ⟨by omega, hq⟩]
      · rw [if_neg hi]
        by_cases h2 : i < k ∧ c.getD i 0 = q
        · rw [if_pos h2, if_pos ⟨by omega, h2.2⟩]
        · rw [if_neg h2, if_neg (fun h3 => h2 ⟨by omega, h3.2⟩)]
    · rw [if_neg hq, ih]
      by_cases h2 : i < k ∧ c.getD i 0 = q
      · rw [if_pos h2, if_pos ⟨by omega, h2.2⟩]
      · rw [if_neg h2, if_neg (fun h3 => h2 ⟨by
          by_cases hi : i = k
          · subst hi; exact absurd h3.2 hq
          · omega, h3.2⟩)]
/-- A class is put to another one. -/
def rlN (p q : Nat) (c : List Nat) : List Nat := rlb p q c c.length
theorem rlN_len (p q : Nat) (c : List Nat) : (rlN p q c).length = c.length := rlb_len _ _ _ _
theorem rlN_get {p q : Nat} {c : List Nat} {i : Nat} (hi : i < c.length) : (rlN p q c).getD i 0 = if c.getD i 0 = q then p else c.getD i 0 := by
  unfold rlN
  rw [rlb_get _ (Nat.le_refl _)]
  by_cases h : c.getD i 0 = q
  · rw [if_pos ⟨hi, h⟩, if_pos h]
  · rw [if_neg (fun e => h e.2), if_neg h]
theorem filt_lt {P Q : Nat → Bool} : ∀ {l : List Nat}, (∀ x ∈ l, Q x = true → P x = true) → ∀ {v}, v ∈ l → P v = true → Q v = false → (l.filter Q).length < (l.filter P).length
  | [], _, _, h, _, _ => by cases h
  | x :: r, h, v, hv, h1, h2 => by
    have hle : (r.filter Q).length ≤ (r.filter P).length := by
      clear hv
      have h := fun y (hy : y ∈ r) => h y (List.mem_cons_of_mem _ hy)
      clear h1 h2
      induction r with
      | nil => exact Nat.le_refl _
      | cons y r ih =>
        have h3 := h y List.mem_cons_self
        have ih := ih (fun y hy => by rcases List.mem_cons.1 hy with rfl | hy'
                                      · exact ‹∀ z ∈ _ :: _ :: r, Q z = true → P z = true› _ List.mem_cons_self
                                      · exact ‹∀ z ∈ _ :: _ :: r, Q z = true → P z = true› _ (List.mem_cons_of_mem _ (List.mem_cons_of_mem _ hy'))) (fun z hz => h z (List.mem_cons_of_mem _ hz))
        rw [List.filter_cons, List.filter_cons]
        cases hq : Q y
        · cases P y
          · simpa using ih
          · simp; omega
        · rw [h3 hq]; simpa using ih
    rw [List.filter_cons, List.filter_cons]
    rcases List.mem_cons.1 hv with rfl | hv'
    · rw [h1, h2]; simp; omega
    · have ih := filt_lt (l := r) (fun y hy => h y (List.mem_cons_of_mem _ hy)) hv' h1 h2
      cases hq : Q x
      · cases P x
        · simpa using ih
        · simp; omega
      · rw [h x List.mem_cons_self hq]; simp; omega
/-- How many classes. -/
def clsN (n : Nat) (c : List Nat) : Nat := ((List.range n).filter fun v => c.contains v).length
theorem getD_mem0 {c : List Nat} {i : Nat} (h : i < c.length) : c.getD i 0 ∈ c := by
  rw [List.getD_eq_getElem?_getD, List.getElem?_eq_getElem h]; exact List.getElem_mem h
theorem mem_getD0 {c : List Nat} {v : Nat} (h : v ∈ c) : ∃ i, i < c.length ∧ c.getD i 0 = v := by
  obtain ⟨i, hi, e⟩ := List.mem_iff_getElem.1 h
  exact ⟨i, hi, by rw [List.getD_eq_getElem?_getD, List.getElem?_eq_getElem hi]; exact e⟩
theorem clsN_rl {n p q : Nat} {c : List Nat} (hp : p ∈ c) (hq : q ∈ c) (hqn : q < n) (hne : p ≠ q) : clsN n (rlN p q c) < clsN n c := by
  refine filt_lt (fun v _ h => ?_) (v := q) (List.mem_range.2 hqn) (by simpa using hq) ?_
  · simp only [List.contains_iff_mem] at h ⊢
    obtain ⟨i, hi, e⟩ := mem_getD0 h
    rw [rlN_len] at hi
    rw [rlN_get hi] at e
    split at e
    · rw [← e]; exact hp
    · rw [← e]; exact getD_mem0 hi
  · rw [Bool.eq_false_iff]
    intro h
    simp only [List.contains_iff_mem] at h
    obtain ⟨i, hi, e⟩ := mem_getD0 h
    rw [rlN_len] at hi
    rw [rlN_get hi] at e
    split at e
    · exact hne e
    · rename_i h2; exact h2 e
theorem rlN_lt {n p q : Nat} {c : List Nat} (hp : p < n) (h : ∀ i, i < c.length → c.getD i 0 < n) : ∀ i, i < (rlN p q c).length → (rlN p q c).getD i 0 < n := fun i hi => by
  rw [rlN_len] at hi
  rw [rlN_get hi]
  split
  · exact hp
  · exact h i hi
/-- What was together stays so. -/
theorem rlN_keep {p q : Nat} {c : List Nat} {x y : Nat} (hx : x < c.length) (hy : y < c.length) (h : c.getD x 0 = c.getD y 0) : (rlN p q c).getD x 0 = (rlN p q c).getD y 0 := by
  rw [rlN_get hx, rlN_get hy, h]
/-- What is together now. -/
theorem rlN_split {c : List Nat} {x y a b : Nat} (hx : x < c.length) (hy : y < c.length) (h : (rlN (c.getD a 0) (c.getD b 0) c).getD x 0 = (rlN (c.getD a 0) (c.getD b 0) c).getD y 0) :
    c.getD x 0 = c.getD y 0 ∨ (c.getD x 0 = c.getD a 0 ∧ c.getD y 0 = c.getD b 0) ∨ (c.getD x 0 = c.getD b 0 ∧ c.getD y 0 = c.getD a 0) := by
  rw [rlN_get hx, rlN_get hy] at h
  split at h <;> split at h
  · rename_i h1 h2; exact .inl (h1.trans h2.symm)
  · rename_i h1 h2; exact .inr (.inr ⟨h1, h.symm⟩)
  · rename_i h1 h2; exact .inr (.inl ⟨h, h2⟩)
  · exact .inl h
theorem rlN_join {c : List Nat} {a b : Nat} (ha : a < c.length) (hb : b < c.length) : (rlN (c.getD a 0) (c.getD b 0) c).getD a 0 = (rlN (c.getD a 0) (c.getD b 0) c).getD b 0 := by
  rw [rlN_get ha, rlN_get hb, if_pos rfl]
  split
  · rfl
  · rfl
/-! The library's way: pairs that are still to be put together. -/
def Rsp (n : Nat) (h : Nat → Nat) (c : List Nat) (todo : List (Nat × Nat)) : Prop := (∀ x, x < n → ∀ y, y < n → c.getD x 0 = c.getD y 0 → h x = h y) ∧ ∀ p ∈ todo, h p.1 = h p.2
structure KI (n : Nat) (f g : Nat → Nat → Nat) (R : Nat → Nat → Prop) (c : List Nat) (todo : List (Nat × Nat)) : Prop where
  len : c.length = n
  lt : ∀ i, i < n → c.getD i 0 < n
  tl : ∀ p ∈ todo, p.1 < n ∧ p.2 < n
  has : ∀ h, Rsp n h c todo → ∀ x y, R x y → h x = h y
  least : ∀ d : List Nat, Cpt n f g d → (∀ x y, R x y → d.getD x 0 = d.getD y 0) → Rsp n (fun i => d.getD i 0) c todo
  sat : ∀ h, Rsp n h c todo → ∀ x, x < n → ∀ y, y < n → c.getD x 0 = c.getD y 0 → ∀ z, z < n → h (f x z) = h (f y z) ∧ h (g x z) = h (g y z)
theorem KI.skip {n : Nat} {f g : Nat → Nat → Nat} {R : Nat → Nat → Prop} {c : List Nat} {todo : List (Nat × Nat)} {p : Nat × Nat} (K : KI n f g R c (todo ++ [p])) (h : c.getD p.1 0 = c.getD p.2 0) : KI n f g R c todo := by
  have hp := K.tl p (by simp)
  have key : ∀ h, Rsp n h c todo → Rsp n h c (todo ++ [p]) := fun h' hr => ⟨hr.1, fun q hq => by
    rcases List.mem_append.1 hq with hq | hq
    · exact hr.2 q hq
    · rw [List.mem_singleton] at hq; subst hq; exact hr.1 _ hp.1 _ hp.2 h⟩
  exact ⟨K.len, K.lt, fun q hq => K.tl q (List.mem_append_left _ hq), fun h' hr => K.has h' (key h' hr), fun d hd hR => ⟨(K.least d hd hR).1, fun q hq => (K.least d hd hR).2 q (List.mem_append_left _ hq)⟩, fun h' hr => K.sat h' (key h' hr)⟩
/-- What follows from a pair. -/
def pzN (f g : Nat → Nat → Nat) (a b : Nat) : Nat → List (Nat × Nat)
  | 0 => []
  | k + 1 => pzN f g a b k ++ [(f a k, f b k), (g a k, g b k)]
theorem pzN_mem {f g : Nat → Nat → Nat} {a b : Nat} {p : Nat × Nat} : ∀ k, p ∈ pzN f g a b k ↔ ∃ z, z < k ∧ (p = (f a z, f b z) ∨ p = (g a z, g b z))
  | 0 => by simp [pzN]
  | k + 1 => by
    rw [pzN, List.mem_append, pzN_mem k]
    constructor
    · rintro (⟨z, hz, h⟩ | h)
      · exact ⟨z, by omega, h⟩
      · simp only [List.mem_cons, List.not_mem_nil, or_false] at h
        exact ⟨k, by omega, h⟩
    · rintro ⟨z, hz, h⟩
      by_cases e : z = k
      · subst e; exact .inr (by simpa using h)
      · exact .inl ⟨z, by omega, h⟩
theorem KI.merge {n : Nat} {f g : Nat → Nat → Nat} (L : Lt n f g) {R : Nat → Nat → Prop} {c : List Nat} {todo : List (Nat × Nat)} {a b : Nat} (K : KI n f g R c (todo ++ [(a, b)])) : KI n f g R (rlN (c.getD b 0) (c.getD a 0) c) (todo ++ pzN f g a b n) := by
  have hp := K.tl (a, b) (by simp)
  dsimp only at hp
  have hl := K.len
  have key : ∀ h, Rsp n h (rlN (c.getD b 0) (c.getD a 0) c) (todo ++ pzN f g a b n) → Rsp n h c (todo ++ [(a, b)]) := fun h hr => ⟨fun x hx y hy e => hr.1 x hx y hy (rlN_keep (by omega) (by omega) e), fun q hq => by
    rcases List.mem_append.1 hq with hq | hq
    · exact hr.2 q (List.mem_append_left _ hq)
    · rw [List.mem_singleton] at hq; subst hq
      exact hr.1 _ hp.1 _ hp.2 (rlN_join (a := b) (b := a) (by omega) (by omega)).symm⟩
  refine ⟨by rw [rlN_len]; exact hl, fun i hi => ?_, fun q hq => ?_, fun h hr => K.has h (key h hr), fun d hd hR => ⟨fun x hx y hy e => ?_, fun q hq => ?_⟩, fun h hr x hx y hy e z hz => ?_⟩
  · exact rlN_lt (n := n) (K.lt b hp.2) (fun i hi => K.lt i (by omega)) i (by rw [rlN_len]; omega)
  · rcases List.mem_append.1 hq with hq | hq
    · exact K.tl q (List.mem_append_left _ hq)
    · obtain ⟨z, hz, h⟩ := (pzN_mem n).1 hq
      rcases h with rfl | rfl
      · exact ⟨L.fl _ _ hp.1 hz, L.fl _ _ hp.2 hz⟩
      · exact ⟨L.gl _ _ hp.1 hz, L.gl _ _ hp.2 hz⟩
  · have hK := K.least d hd hR
    have hab : d.getD a 0 = d.getD b 0 := hK.2 (a, b) (by simp)
    rcases rlN_split (by omega) (by omega) e with h | ⟨h1, h2⟩ | ⟨h1, h2⟩
    · exact hK.1 x hx y hy h
    · exact ((hK.1 x hx b hp.2 h1).trans hab.symm).trans (hK.1 a hp.1 y hy h2.symm)
    · exact ((hK.1 x hx a hp.1 h1).trans hab).trans (hK.1 b hp.2 y hy h2.symm)
  · have hK := K.least d hd hR
    have hab : d.getD a 0 = d.getD b 0 := hK.2 (a, b) (by simp)
    rcases List.mem_append.1 hq with hq | hq
    · exact hK.2 q (List.mem_append_left _ hq)
    · obtain ⟨z, hz, h⟩ := (pzN_mem n).1 hq
      have := hd a hp.1 b hp.2 hab z hz
      rcases h with rfl | rfl
      · exact this.1
      · exact this.2
  · have hs := K.sat h (key h hr)
    have hz1 : h (f a z) = h (f b z) := hr.2 (f a z, f b z) (List.mem_append_right _ ((pzN_mem n).2 ⟨z, hz, .inl rfl⟩))
    have hz2 : h (g a z) = h (g b z) := hr.2 (g a z, g b z) (List.mem_append_right _ ((pzN_mem n).2 ⟨z, hz, .inr rfl⟩))
    rcases rlN_split (by omega) (by omega) e with h0 | ⟨h1, h2⟩ | ⟨h1, h2⟩
    · exact hs x hx y hy h0 z hz
    · have a1 := hs x hx b hp.2 h1 z hz
      have a2 := hs a hp.1 y hy h2.symm z hz
      exact ⟨(a1.1.trans hz1.symm).trans a2.1, (a1.2.trans hz2.symm).trans a2.2⟩
    · have a1 := hs x hx a hp.1 h1 z hz
      have a2 := hs b hp.2 y hy h2.symm z hz
      exact ⟨(a1.1.trans hz1).trans a2.1, (a1.2.trans hz2).trans a2.2⟩
/-- The numbers 0, 1, .. -/
theorem range_getD {n i : Nat} (h : i < n) : (List.range n).getD i 0 = i := by
  rw [List.getD_eq_getElem?_getD, List.getElem?_range h]; rfl
theorem KI.start {n : Nat} {f g : Nat → Nat → Nat} {P : List (Nat × Nat)} (hP : ∀ p ∈ P, p.1 < n ∧ p.2 < n) : KI n f g (fun x y => (x, y) ∈ P) (List.range n) P where
  len := List.length_range
  lt := fun i hi => by rw [range_getD hi]; exact hi
  tl := hP
  has := fun h hr x y hxy => hr.2 (x, y) hxy
  least := fun d _ hR => ⟨fun x hx y hy e => by rw [range_getD hx, range_getD hy] at e; rw [e], fun p hp => hR p.1 p.2 hp⟩
  sat := fun h _ x hx y hy e z _ => by rw [range_getD hx, range_getD hy] at e; subst e; exact ⟨rfl, rfl⟩
theorem Cpt.cg {n : Nat} {f g : Nat → Nat → Nat} (L : Lt n f g) {c d : List Nat} (hd : Cpt n f g d) (h : ∀ x, x < n → ∀ y, y < n → (c.getD x 0 = c.getD y 0 ↔ d.getD x 0 = d.getD y 0)) : Cpt n f g c := fun x hx y hy e z hz => by
  obtain ⟨h1, h2⟩ := hd x hx y hy ((h x hx y hy).1 e) z hz
  exact ⟨(h _ (L.fl x z hx hz) _ (L.fl y z hy hz)).2 h1, (h _ (L.gl x z hx hz) _ (L.gl y z hy hz)).2 h2⟩
theorem KI.done {n : Nat} {f g : Nat → Nat → Nat} (L : Lt n f g) {R : Nat → Nat → Prop} (hR : ∀ x y, R x y → x < n ∧ y < n) {c : List Nat} (K : KI n f g R c []) : Lst n f g R (renC c n) := by
  have hr : Rsp n (fun i => c.getD i 0) c [] := ⟨fun x _ y _ e => e, fun p hp => by cases hp⟩
  have hcp : Cpt n f g c := fun x hx y hy e z hz => K.sat _ hr x hx y hy e z hz
  refine ⟨⟨renC_len c n, renC_can, hcp.cg L fun x hx y hy => renC_eq hx hy⟩, fun x y hxy => ?_, fun d hd hRd x hx y hy e => ?_⟩
  · obtain ⟨hx, hy⟩ := hR x y hxy
    exact (renC_eq hx hy).2 (K.has _ hr x y hxy)
  · exact (K.least d hd hRd).1 x hx y hy ((renC_eq hx hy).1 e)
/-! The reference's way. -/
structure LI (n : Nat) (f g : Nat → Nat → Nat) (R : Nat → Nat → Prop) (c : List Nat) : Prop where
  len : c.length = n
  lt : ∀ i, i < n → c.getD i 0 < n
  has : ∀ x y, R x y → c.getD x 0 = c.getD y 0
  least : ∀ d : List Nat, Cpt n f g d → (∀ x y, R x y → d.getD x 0 = d.getD y 0) → ∀ x, x < n → ∀ y, y < n → c.getD x 0 = c.getD y 0 → d.getD x 0 = d.getD y 0
theorem LI.merge {n : Nat} {f g : Nat → Nat → Nat} {R : Nat → Nat → Prop} (hR : ∀ x y, R x y → x < n ∧ y < n) {c : List Nat} (K : LI n f g R c) {a b : Nat} (ha : a < n) (hb : b < n) (hab : ∀ d : List Nat, Cpt n f g d → (∀ x y, R x y → d.getD x 0 = d.getD y 0) → d.getD a 0 = d.getD b 0) : LI n f g R (rlN (c.getD a 0) (c.getD b 0) c) := by
  have hl := K.len
  refine ⟨by rw [rlN_len]; exact hl, fun i hi => rlN_lt (n := n) (K.lt a ha) (fun i hi => K.lt i (by omega)) i (by rw [rlN_len]; omega), fun x y hxy => ?_, fun d hd hRd x hx y hy e => ?_⟩
  · obtain ⟨hx, hy⟩ := hR x y hxy
    exact rlN_keep (by omega) (by omega) (K.has x y hxy)
  · have hK := K.least d hd hRd
    have hd2 := hab d hd hRd
    rcases rlN_split (by omega) (by omega) e with h | ⟨h1, h2⟩ | ⟨h1, h2⟩
    · exact hK x hx y hy h
    · exact ((hK x hx a ha h1).trans hd2).trans (hK b hb y hy h2.symm)
    · exact ((hK x hx b hb h1).trans hd2.symm).trans (hK a ha y hy h2.symm)
theorem LI.done {n : Nat} {f g : Nat → Nat → Nat} (L : Lt n f g) {R : Nat → Nat → Prop} (hR : ∀ x y, R x y → x < n ∧ y < n) {c : List Nat} (K : LI n f g R c) (hc : ∀ a, a < n → ∀ b, b < a → c.getD a 0 = c.getD b 0 → ∀ z, z < n → c.getD (f a z) 0 = c.getD (f b z) 0 ∧ c.getD (g a z) 0 = c.getD (g b z) 0) : Lst n f g R (renC c n) := by
  have hcp : Cpt n f g c := fun x hx y hy e z hz => by
    rcases Nat.lt_trichotomy x y with h | rfl | h
    · obtain ⟨h1, h2⟩ := hc y hy x h e.symm z hz
      exact ⟨h1.symm, h2.symm⟩
    · exact ⟨rfl, rfl⟩
    · exact hc x hx y h e z hz
  refine ⟨⟨renC_len c n, renC_can, hcp.cg L fun x hx y hy => renC_eq hx hy⟩, fun x y hxy => ?_, fun d hd hRd x hx y hy e => ?_⟩
  · obtain ⟨hx, hy⟩ := hR x y hxy
    exact (renC_eq hx hy).2 (K.has x y hxy)
  · exact K.least d hd hRd x hx y hy ((renC_eq hx hy).1 e)
end Go.Proofs.Ytgojkabjgagjcaa
