import Derived.Test.YtfjpgficpdbelaaFhb
set_option linter.unusedSimpArgs false
set_option linter.unusedVariables false
set_option linter.unusedSectionVars false
set_option maxRecDepth 20000
namespace Go.Proofs.Ytfjpgficpdbelaa

theorem iterN_congr {α : Type} {f g : Nat → α → α} {x : α} : ∀ {k : Nat}, (∀ i y, i < k → f i y = g i y) → iterN k f x = iterN k g x
  | 0, _ => rfl
  | k + 1, h => by
    show f k (iterN k f x) = g k (iterN k g x)
    rw [iterN_congr (k := k) (fun i y hi => h i y (by omega)), h k _ (by omega)]

theorem okB_irr {n : Nat} {ns : List Nat} (h : okB n ns = true) {i : Nat} (hi : i < n) : lt ns i i = false := by
  have h1 := List.all_eq_true.1 h i (List.mem_range.2 hi)
  simp only [okRow, Bool.and_eq_true, Bool.not_eq_true'] at h1
  exact h1.1
theorem okB_tr {n : Nat} {ns : List Nat} (h : okB n ns = true) {i j k : Nat} (hi : i < n) (hk : k < n) (h1 : lt ns k i = true) (h2 : lt ns j k = true) : lt ns j i = true := by
  have h3 := List.all_eq_true.1 h i (List.mem_range.2 hi)
  simp only [okRow, Bool.and_eq_true] at h3
  have h4 := List.all_eq_true.1 h3.2 k (List.mem_range.2 hk)
  simp only [okPair, Bool.or_eq_true, Bool.not_eq_true', beq_iff_eq, h1] at h4
  rcases h4 with h4 | h4
  · cases h4
  · exact ndiff_zero.1 h4 j h2

/-- How many are below. -/
def rk (n : Nat) (ns : List Nat) (b : Nat) : Nat := (List.range n).countP fun a => lt ns a b
theorem countP_lt {p q : Nat → Bool} {x : Nat} : ∀ {l : List Nat}, (∀ y ∈ l, p y = true → q y = true) → x ∈ l → q x = true → p x = false → l.countP p < l.countP q
  | [], _, h, _, _ => by cases h
  | y :: l, h, hx, hq, hp => by
    have hle : l.countP p ≤ l.countP q := List.countP_mono_left fun z hz => h z (List.mem_cons_of_mem _ hz)
    simp only [List.countP_cons]
    rcases List.mem_cons.1 hx with rfl | hx
    · simp [hq, hp]; omega
    · have := countP_lt (l := l) (fun z hz => h z (List.mem_cons_of_mem _ hz)) hx hq hp
      have h1 := h y (by simp)
      cases hpy : p y
      · simp; omega
      · simp [h1 hpy]; omega
theorem rk_lt {n : Nat} {ns : List Nat} (h : okB n ns = true) {a b : Nat} (ha : a < n) (hb : b < n) (hl : lt ns a b = true) : rk n ns a < rk n ns b :=
  countP_lt (fun y _ hy => okB_tr h hb ha hl hy) (List.mem_range.2 ha) hl (okB_irr h ha)
theorem rk_le (n : Nat) (ns : List Nat) (b : Nat) : rk n ns b ≤ n := by
  unfold rk
  have := List.countP_le_length (p := fun a => lt ns a b) (l := List.range n)
  simpa using this

/-- One step of the greatest. -/
def mx (p : Nat → Bool) (g : Nat → Nat) (j h : Nat) : Nat := if p j = true then max h (g j + 1) else h
theorem mx_ge {p : Nat → Bool} {g : Nat → Nat} : ∀ {n j : Nat}, j < n → p j = true → g j + 1 ≤ iterN n (mx p g) 0
  | 0, j, h, _ => by omega
  | n + 1, j, h, hp => by
    show _ ≤ mx p g n (iterN n (mx p g) 0)
    unfold mx
    by_cases hj : j = n
    · subst hj
      rw [if_pos hp]
      omega
    · have := mx_ge (p := p) (g := g) (n := n) (j := j) (by omega) hp
      unfold mx at this
      split <;> omega
theorem mx_at {p : Nat → Bool} {g : Nat → Nat} : ∀ {n : Nat}, iterN n (mx p g) 0 = 0 ∨ ∃ j, j < n ∧ p j = true ∧ iterN n (mx p g) 0 = g j + 1
  | 0 => .inl rfl
  | n + 1 => by
    show mx p g n (iterN n (mx p g) 0) = 0 ∨ ∃ j, j < n + 1 ∧ p j = true ∧ mx p g n (iterN n (mx p g) 0) = g j + 1
    have ih := mx_at (p := p) (g := g) (n := n)
    generalize iterN n (mx p g) 0 = y at ih
    unfold mx
    split
    · rename_i hp
      by_cases hc : y ≤ g n + 1
      · exact .inr ⟨n, by omega, hp, by omega⟩
      · rcases ih with ih | ⟨j, h1, h2, h3⟩
        · omega
        · exact .inr ⟨j, by omega, h2, by omega⟩
    · rcases ih with ih | ⟨j, h1, h2, h3⟩
      · exact .inl ih
      · exact .inr ⟨j, by omega, h2, h3⟩

def hF (n : Nat) (ns : List Nat) : Nat → Nat → Nat
  | 0, _ => 0
  | f + 1, b => iterN n (mx (fun j => lt ns j b) (hF n ns f)) 0
def hgt (n : Nat) (ns : List Nat) (b : Nat) : Nat := hF n ns (n + 1) b

theorem mx_congr {p : Nat → Bool} {g g' : Nat → Nat} {n : Nat} (h : ∀ j, j < n → p j = true → g j = g' j) : iterN n (mx p g) 0 = iterN n (mx p g') 0 :=
  iterN_congr fun i y hi => by
    unfold mx
    split
    · rename_i hp; rw [h i hi hp]
    · rfl
theorem hF_fuel {n : Nat} {ns : List Nat} (h : okB n ns = true) : ∀ (f : Nat) (b : Nat), b < n → rk n ns b < f → ∀ f', f ≤ f' → hF n ns f' b = hF n ns f b
  | 0, _, _, hr, _, _ => by omega
  | f + 1, b, hb, hr, f', hf => by
    obtain ⟨g, rfl⟩ : ∃ g, f' = g + 1 := ⟨f' - 1, by omega⟩
    exact mx_congr fun j hj hl => hF_fuel h f j hj (by have := rk_lt h hj hb hl; omega) g (by omega)
theorem hgt_eq {n : Nat} {ns : List Nat} (h : okB n ns = true) {b : Nat} (hb : b < n) : hgt n ns b = iterN n (mx (fun j => lt ns j b) (hgt n ns)) 0 :=
  mx_congr fun j hj hl => (hF_fuel h n j hj (by have := rk_lt h hj hb hl; have := rk_le n ns b; omega) (n + 1) (by omega)).symm
theorem hgt_up {n : Nat} {ns : List Nat} (h : okB n ns = true) {a b : Nat} (ha : a < n) (hb : b < n) (hl : lt ns a b = true) : hgt n ns a + 1 ≤ hgt n ns b := by
  rw [hgt_eq h hb]
  exact mx_ge (p := fun j => lt ns j b) (g := hgt n ns) ha hl
theorem hgt_at {n : Nat} {ns : List Nat} (h : okB n ns = true) {b : Nat} (hb : b < n) : hgt n ns b = 0 ∨ ∃ a, a < n ∧ lt ns a b = true ∧ hgt n ns b = hgt n ns a + 1 := by
  rw [hgt_eq h hb]
  exact mx_at (p := fun j => lt ns j b) (g := hgt n ns)
theorem hgt_rk {n : Nat} {ns : List Nat} (h : okB n ns = true) : ∀ (r b : Nat), b < n → rk n ns b ≤ r → hgt n ns b ≤ r := by
  intro r
  induction r with
  | zero =>
    intro b hb hr
    rcases hgt_at h hb with h1 | ⟨a, ha, hl, _⟩
    · omega
    · have := rk_lt h ha hb hl; omega
  | succ r ih =>
    intro b hb hr
    rcases hgt_at h hb with h1 | ⟨a, ha, hl, he⟩
    · omega
    · have := rk_lt h ha hb hl
      have := ih a ha (by omega)
      omega
theorem hgt_le {n : Nat} {ns : List Nat} (h : okB n ns = true) {b : Nat} (hb : b < n) : hgt n ns b ≤ n := hgt_rk h n b hb (rk_le n ns b)

/-! Rounds. -/
def rlx (ns : List Nat) (b a : Nat) (out : List Nat) : List Nat := if lt ns a b = true then out.set b (max (out.getD b 0) (out.getD a 0 + 1)) else out
def rlxB (n : Nat) (ns : List Nat) (b : Nat) (out : List Nat) : List Nat := iterN n (rlx ns b) out
def rlxR (n : Nat) (ns : List Nat) (_ : Nat) (out : List Nat) : List Nat := iterN n (rlxB n ns) out
def htP (n : Nat) (ns : List Nat) : List Nat := iterN n (rlxR n ns) (List.replicate n 0)

structure Hts (n : Nat) (ns : List Nat) (out : List Nat) : Prop where
  len : out.length = n
  le : ∀ b, b < n → out.getD b 0 ≤ hgt n ns b

theorem getD_set {l : List Nat} {i j v : Nat} : (l.set i v).getD j 0 = if i = j ∧ i < l.length then v else l.getD j 0 := by
  simp only [List.getD_eq_getElem?_getD, List.getElem?_set]
  by_cases h : i = j
  · subst h
    by_cases h2 : i < l.length
    · simp [h2]
    · simp [h2]
  · simp [h]

theorem rlx_get {ns out : List Nat} {b a c : Nat} : out.getD c 0 ≤ (rlx ns b a out).getD c 0 := by
  unfold rlx
  split
  · rw [getD_set]
    split
    · rename_i h; obtain ⟨rfl, _⟩ := h; omega
    · omega
  · exact Nat.le_refl _
theorem rlx_hts {n : Nat} {ns out : List Nat} (hok : okB n ns = true) (h : Hts n ns out) {a b : Nat} (ha : a < n) (hb : b < n) : Hts n ns (rlx ns b a out) := by
  unfold rlx
  split
  · rename_i hl
    refine ⟨by rw [List.length_set]; exact h.len, fun c hc => ?_⟩
    rw [getD_set]
    split
    · rename_i h1
      obtain ⟨rfl, _⟩ := h1
      have := hgt_up hok ha hb hl
      have := h.le a ha
      have := h.le b hb
      omega
    · exact h.le c hc
  · exact h
theorem rlxB_hts {n : Nat} {ns out : List Nat} (hok : okB n ns = true) (h : Hts n ns out) {k b : Nat} (hk : k ≤ n) (hb : b < n) : Hts n ns (iterN k (rlx ns b) out) :=
  iterN_inv k h fun i y hi hy => rlx_hts hok hy (by omega) hb
theorem rlxR_hts {n : Nat} {ns out : List Nat} (hok : okB n ns = true) (h : Hts n ns out) {k : Nat} (hk : k ≤ n) : Hts n ns (iterN k (rlxB n ns) out) :=
  iterN_inv k h fun i y hi hy => rlxB_hts hok hy (Nat.le_refl n) (by omega)
theorem rlx_n_hts {n : Nat} {ns out : List Nat} (hok : okB n ns = true) (h : Hts n ns out) (k : Nat) : Hts n ns (iterN k (rlxR n ns) out) :=
  iterN_inv k h fun _ _ _ hy => rlxR_hts hok hy (Nat.le_refl n)
theorem hts_zero (n : Nat) (ns : List Nat) : Hts n ns (List.replicate n 0) := ⟨by simp, fun b hb => by simp [hb]⟩

theorem iterN_mono {f : Nat → List Nat → List Nat} (h : ∀ i l c, l.getD c 0 ≤ (f i l).getD c 0) {l : List Nat} {c : Nat} : ∀ (k : Nat), l.getD c 0 ≤ (iterN k f l).getD c 0
  | 0 => Nat.le_refl _
  | k + 1 => Nat.le_trans (iterN_mono h k) (h k _ c)
theorem rlxB_get {n : Nat} {ns : List Nat} (b : Nat) (l : List Nat) (c : Nat) : l.getD c 0 ≤ (rlxB n ns b l).getD c 0 := iterN_mono (fun _ _ _ => rlx_get) n
/-- What a point has reached stays; the point that is looked at comes above each that is below it. -/
theorem rlx_reach {n : Nat} {ns out : List Nat} (hok : okB n ns = true) (h : Hts n ns out) {b : Nat} (hb : b < n) : ∀ (k : Nat), k ≤ n → ∀ a, a < k → lt ns a b = true → out.getD a 0 + 1 ≤ (iterN k (rlx ns b) out).getD b 0
  | 0, _, a, ha, _ => by omega
  | k + 1, hk, a, ha, hl => by
    by_cases hak : a = k
    · subst hak
      have hh := rlxB_hts hok h (k := a) (by omega) hb
      have hm : out.getD a 0 ≤ (iterN a (rlx ns b) out).getD a 0 := iterN_mono (fun _ _ _ => rlx_get) a
      show _ ≤ (rlx ns b a (iterN a (rlx ns b) out)).getD b 0
      generalize iterN a (rlx ns b) out = y at hh hm
      unfold rlx
      rw [if_pos hl, getD_set, if_pos ⟨rfl, by rw [hh.len]; exact hb⟩]
      omega
    · exact Nat.le_trans (rlx_reach hok h hb k (by omega) a (by omega) hl) rlx_get

theorem rlx_round {n r : Nat} {ns out : List Nat} (hok : okB n ns = true) (h : Hts n ns out) (hr : ∀ b, b < n → min r (hgt n ns b) ≤ out.getD b 0) : ∀ (k : Nat), k ≤ n → ∀ b, b < k → min (r + 1) (hgt n ns b) ≤ (iterN k (rlxB n ns) out).getD b 0
  | 0, _, b, hb => by omega
  | k + 1, hk, b, hb => by
    by_cases hbk : b = k
    · subst hbk
      have hh := rlxR_hts hok h (k := b) (by omega)
      rcases hgt_at hok (b := b) (by omega) with h0 | ⟨a, ha, hl, he⟩
      · rw [h0]; omega
      · have h1 := rlx_reach hok hh (b := b) (by omega) n (Nat.le_refl n) a ha hl
        have h2 : out.getD a 0 ≤ (iterN b (rlxB n ns) out).getD a 0 := iterN_mono rlxB_get b
        have h3 := hr a ha
        show _ ≤ (iterN n (rlx ns b) (iterN b (rlxB n ns) out)).getD b 0
        omega
    · exact Nat.le_trans (rlx_round hok h hr k (by omega) b (by omega)) (rlxB_get k _ b)

theorem htP_ge {n : Nat} {ns : List Nat} (hok : okB n ns = true) : ∀ (r : Nat) (b : Nat), b < n → min r (hgt n ns b) ≤ (iterN r (rlxR n ns) (List.replicate n 0)).getD b 0
  | 0, b, hb => by omega
  | r + 1, b, hb => rlx_round hok (rlx_n_hts hok (hts_zero n ns) r) (fun b hb => htP_ge hok r b hb) n (Nat.le_refl n) b hb

theorem htP_eq {n : Nat} {ns : List Nat} (hok : okB n ns = true) : htP n ns = (List.range n).map (hgt n ns) := by
  have h := rlx_n_hts hok (hts_zero n ns) n
  apply List.ext_getElem
  · rw [List.length_map, List.length_range]; exact h.len
  · intro i h1 h2
    have hi : i < n := by simpa using h2
    have g1 := htP_ge hok n i hi
    have g2 := h.le i hi
    have g3 := hgt_le hok hi
    rw [List.getElem_map, List.getElem_range]
    have : (htP n ns).getD i 0 = (htP n ns)[i] := by rw [List.getD_eq_getElem?_getD, List.getElem?_eq_getElem h1]; rfl
    rw [← this]
    unfold htP at *
    omega
end Go.Proofs.Ytfjpgficpdbelaa
