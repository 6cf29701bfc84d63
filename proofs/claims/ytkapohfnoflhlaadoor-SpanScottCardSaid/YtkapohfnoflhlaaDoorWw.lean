import Derived.Test.YtkapohfnoflhlaaDoorWv
set_option linter.unusedSimpArgs false
set_option linter.unusedVariables false
set_option linter.unusedSectionVars false
set_option maxRecDepth 20000
namespace Go.Proofs.YtkapohfnoflhlaaDoor
attribute [local irreducible] QOp aL aC qL
def fireU (ns : List Nat) (x : List Int) (b a : Nat) : Bool := adjU ns a b && decide (x.getD b 0 < x.getD a 0 + wtU ns a b)
def updU (ns : List Nat) (s : List Int × Bool) (b a : Nat) : List Int × Bool := if fireU ns s.1 b a = true then (s.1.set b (s.1.getD a 0 + wtU ns a b), true) else s
def rowU (ns : List Nat) (b : Nat) : Nat → List Int × Bool → List Int × Bool
  | 0, s => s
  | k + 1, s => updU ns (rowU ns b k s) b k
def rndU (n : Nat) (ns : List Nat) : Nat → List Int × Bool → List Int × Bool
  | 0, s => s
  | k + 1, s => rowU ns k n (rndU n ns k s)
def stU (n : Nat) (ns : List Nat) : Nat → List Int × Bool
  | 0 => (List.replicate n 0, false)
  | r + 1 => rndU n ns n ((stU n ns r).1, false)
theorem rowU_s (ns : List Nat) (b k : Nat) (s : List Int × Bool) : rowU ns b (k + 1) s = updU ns (rowU ns b k s) b k := rfl
theorem rndU_s (n : Nat) (ns : List Nat) (k : Nat) (s : List Int × Bool) : rndU n ns (k + 1) s = rowU ns k n (rndU n ns k s) := rfl
theorem stU_s (n : Nat) (ns : List Nat) (r : Nat) : stU n ns (r + 1) = rndU n ns n ((stU n ns r).1, false) := rfl
/-- The round that changes nothing. -/
def unR (n : Nat) (ns : List Nat) : Option Nat := qdF (fun r => !(stU n ns (r + 1)).2) (n + 2)
theorem getD_setI (l : List Int) (x b : Nat) (v : Int) (hx : x < l.length) : (l.set x v).getD b 0 = if b = x then v else l.getD b 0 := by
  by_cases h : b = x
  · subst h
    rw [if_pos rfl]
    simp [List.getD_eq_getElem?_getD, hx]
  · rw [if_neg h]
    simp [List.getD_eq_getElem?_getD, List.getElem?_set_ne (Ne.symm h)]
theorem rowU_ind {ns : List Nat} {n b : Nat} (I : List Int × Bool → Prop) (hb : b < n) (h : ∀ s a, a < n → I s → I (updU ns s b a)) {s : List Int × Bool} (hs : I s) : ∀ k, k ≤ n → I (rowU ns b k s)
  | 0, _ => hs
  | k + 1, hk => h _ k (by omega) (rowU_ind I hb h hs k (by omega))
theorem rndU_ind {ns : List Nat} {n : Nat} (I : List Int × Bool → Prop) (h : ∀ s b a, b < n → a < n → I s → I (updU ns s b a)) {s : List Int × Bool} (hs : I s) : ∀ k, k ≤ n → I (rndU n ns k s)
  | 0, _ => hs
  | k + 1, hk => rowU_ind I (show k < n by omega) (fun s a ha => h s k a (by omega) ha) (rndU_ind I h hs k (by omega)) n (Nat.le_refl _)
theorem upd_len (ns : List Nat) (s : List Int × Bool) (b a : Nat) : (updU ns s b a).1.length = s.1.length := by
  unfold updU
  split
  · exact List.length_set
  · rfl
theorem upd_le {ns : List Nat} {s : List Int × Bool} {b a : Nat} (hb : b < s.1.length) (i : Nat) : s.1.getD i 0 ≤ (updU ns s b a).1.getD i 0 := by
  unfold updU
  split
  · rename_i h
    show _ ≤ (s.1.set b (s.1.getD a 0 + wtU ns a b)).getD i 0
    unfold fireU at h
    rw [Bool.and_eq_true, decide_eq_true_eq] at h
    rw [getD_setI _ _ _ _ hb]
    split
    · rename_i e; subst e; omega
    · exact Int.le_refl _
  · exact Int.le_refl _
theorem row_len {ns : List Nat} {n b : Nat} {s : List Int × Bool} (hl : s.1.length = n) (hb : b < n) {k : Nat} (hk : k ≤ n) : (rowU ns b k s).1.length = n :=
  rowU_ind (fun s => s.1.length = n) hb (fun s a _ h => by rw [upd_len]; exact h) hl k hk
theorem rnd_len {ns : List Nat} {n : Nat} {s : List Int × Bool} (hl : s.1.length = n) {k : Nat} (hk : k ≤ n) : (rndU n ns k s).1.length = n :=
  rndU_ind (fun s => s.1.length = n) (fun s b a _ _ h => by rw [upd_len]; exact h) hl k hk
theorem st_len (n : Nat) (ns : List Nat) : ∀ r, (stU n ns r).1.length = n
  | 0 => List.length_replicate
  | r + 1 => by rw [stU_s]; exact rnd_len (s := ((stU n ns r).1, false)) (st_len n ns r) (Nat.le_refl _)
theorem row_le {ns : List Nat} {n b : Nat} {s : List Int × Bool} (hl : s.1.length = n) (hb : b < n) (i : Nat) {k : Nat} : ∀ d, k + d ≤ n → (rowU ns b k s).1.getD i 0 ≤ (rowU ns b (k + d) s).1.getD i 0
  | 0, _ => Int.le_refl _
  | d + 1, h => Int.le_trans (row_le hl hb i d (by omega)) (by
    rw [show k + (d + 1) = k + d + 1 by omega, rowU_s]
    exact upd_le (by rw [row_len hl hb (by omega)]; exact hb) i)
theorem rnd_le {ns : List Nat} {n : Nat} {s : List Int × Bool} (hl : s.1.length = n) (i : Nat) {k : Nat} : ∀ d, k + d ≤ n → (rndU n ns k s).1.getD i 0 ≤ (rndU n ns (k + d) s).1.getD i 0
  | 0, _ => Int.le_refl _
  | d + 1, h => Int.le_trans (rnd_le hl i d (by omega)) (by
    rw [show k + (d + 1) = k + d + 1 by omega, rndU_s]
    have := row_le (ns := ns) (b := k + d) (s := rndU n ns (k + d) s) (rnd_len hl (by omega)) (by omega) i (k := 0) n (by omega)
    rwa [Nat.zero_add] at this)
theorem st_le {n : Nat} {ns : List Nat} (r i : Nat) : (stU n ns r).1.getD i 0 ≤ (stU n ns (r + 1)).1.getD i 0 := by
  rw [stU_s]
  have := rnd_le (ns := ns) (s := ((stU n ns r).1, false)) (st_len n ns r) i (k := 0) n (by omega)
  rwa [Nat.zero_add] at this
/-- Where nothing is marked nothing has been done. -/
theorem row_no {ns : List Nat} {b : Nat} {s : List Int × Bool} : ∀ {k : Nat}, (rowU ns b k s).2 = false → rowU ns b k s = s ∧ ∀ a, a < k → fireU ns s.1 b a = false
  | 0, _ => ⟨rfl, fun a h => by omega⟩
  | k + 1, h => by
    rw [rowU_s] at h ⊢
    unfold updU at h ⊢
    split at h
    · cases h
    · rename_i hf
      obtain ⟨h1, h2⟩ := row_no h
      rw [if_neg hf, h1]
      rw [h1] at hf
      refine ⟨rfl, fun a ha => ?_⟩
      by_cases e : a = k
      · subst e; simpa using hf
      · exact h2 a (by omega)
theorem rnd_no {n : Nat} {ns : List Nat} {s : List Int × Bool} : ∀ {k : Nat}, (rndU n ns k s).2 = false → rndU n ns k s = s ∧ ∀ b, b < k → ∀ a, a < n → fireU ns s.1 b a = false
  | 0, _ => ⟨rfl, fun b h => by omega⟩
  | k + 1, h => by
    rw [rndU_s] at h ⊢
    obtain ⟨h1, h2⟩ := row_no h
    rw [h1] at h ⊢
    obtain ⟨h3, h4⟩ := rnd_no h
    refine ⟨h3, fun b hb => ?_⟩
    by_cases e : b = k
    · subst e; rw [h3] at h2; exact h2
    · exact h4 b (by omega)
/-- Where something is marked something has grown. -/
theorem rnd_yes {n : Nat} {ns : List Nat} {x : List Int} (hl : x.length = n) {k : Nat} (hk : k ≤ n) (h : (rndU n ns k (x, false)).2 = true) : ∃ b, b < n ∧ x.getD b 0 < (rndU n ns k (x, false)).1.getD b 0 := by
  have := rndU_ind (ns := ns) (n := n) (fun s => s.1.length = n ∧ (∀ i, x.getD i 0 ≤ s.1.getD i 0) ∧ (s.2 = true → ∃ b, b < n ∧ x.getD b 0 < s.1.getD b 0)) (fun s b a hb ha ⟨h1, h2, h3⟩ => by
    refine ⟨by rw [upd_len]; exact h1, fun i => Int.le_trans (h2 i) (upd_le (by omega) i), fun h4 => ?_⟩
    have hle := fun i => upd_le (ns := ns) (s := s) (b := b) (a := a) (by omega) i
    by_cases hf : fireU ns s.1 b a = true
    · refine ⟨b, hb, ?_⟩
      unfold updU
      rw [if_pos hf]
      unfold fireU at hf
      rw [Bool.and_eq_true, decide_eq_true_eq] at hf
      show _ < (s.1.set b (s.1.getD a 0 + wtU ns a b)).getD b 0
      rw [getD_setI _ _ _ _ (by omega), if_pos rfl]
      have := h2 b
      omega
    · have e : updU ns s b a = s := by unfold updU; rw [if_neg hf]
      rw [e] at h4 ⊢
      exact h3 h4) (s := (x, false)) ⟨hl, fun i => Int.le_refl _, fun h => by cases h⟩ k hk
  exact this.2.2 h
/-- A step more from what a round begins with. -/
theorem rnd_edge {n : Nat} {ns : List Nat} {s : List Int × Bool} (hl : s.1.length = n) {a b : Nat} (ha : a < n) (hb : b < n) (he : adjU ns a b = true) : s.1.getD a 0 + wtU ns a b ≤ (rndU n ns n s).1.getD b 0 := by
  have h1 : s.1.getD a 0 ≤ (rndU n ns b s).1.getD a 0 := by
    have := rnd_le (ns := ns) hl a (k := 0) b (by omega)
    rwa [Nat.zero_add] at this
  have hl2 := rnd_len (ns := ns) hl (k := b) (by omega)
  have h2 : (rndU n ns b s).1.getD a 0 ≤ (rowU ns b a (rndU n ns b s)).1.getD a 0 := by
    have := row_le (ns := ns) hl2 hb a (k := 0) a (by omega)
    rwa [Nat.zero_add] at this
  have hl3 := row_len (ns := ns) hl2 hb (k := a) (by omega)
  have h3 : (rowU ns b a (rndU n ns b s)).1.getD a 0 + wtU ns a b ≤ (rowU ns b (a + 1) (rndU n ns b s)).1.getD b 0 := by
    rw [rowU_s]
    generalize rowU ns b a (rndU n ns b s) = t at *
    unfold updU
    by_cases hf : fireU ns t.1 b a = true
    · rw [if_pos hf]
      show _ ≤ (t.1.set b (t.1.getD a 0 + wtU ns a b)).getD b 0
      rw [getD_setI _ _ _ _ (by omega), if_pos rfl]
      exact Int.le_refl _
    · rw [if_neg hf]
      unfold fireU at hf
      rw [he, Bool.true_and, decide_eq_true_eq] at hf
      omega
  have h4 : (rowU ns b (a + 1) (rndU n ns b s)).1.getD b 0 ≤ (rndU n ns (b + 1) s).1.getD b 0 := by
    rw [rndU_s]
    have := row_le (ns := ns) hl2 hb b (k := a + 1) (n - (a + 1)) (by omega)
    rwa [show a + 1 + (n - (a + 1)) = n by omega] at this
  have h5 := rnd_le (ns := ns) hl b (k := b + 1) (n - (b + 1)) (by omega)
  rw [show b + 1 + (n - (b + 1)) = n by omega] at h5
  omega
theorem st_wk {n : Nat} {ns : List Nat} : ∀ r b, b < n → ∃ k, Wk n ns b k ((stU n ns r).1.getD b 0)
  | 0, b, hb => ⟨0, by
    have : (stU n ns 0).1.getD b 0 = 0 := by
      show (List.replicate n (0 : Int)).getD b 0 = 0
      simp [List.getD_eq_getElem?_getD, hb]
    rw [this]; exact Wk.nil ns hb⟩
  | r + 1, b, hb => by
    rw [stU_s]
    have := rndU_ind (ns := ns) (n := n) (fun s => s.1.length = n ∧ ∀ b, b < n → ∃ k, Wk n ns b k (s.1.getD b 0)) (fun s b a hb ha ⟨h1, h2⟩ => by
      refine ⟨by rw [upd_len]; exact h1, fun i hi => ?_⟩
      unfold updU
      by_cases hf : fireU ns s.1 b a = true
      · rw [if_pos hf]
        unfold fireU at hf
        rw [Bool.and_eq_true] at hf
        show ∃ k, Wk n ns i k ((s.1.set b (s.1.getD a 0 + wtU ns a b)).getD i 0)
        rw [getD_setI _ _ _ _ (by omega)]
        by_cases e : i = b
        · subst e
          rw [if_pos rfl]
          obtain ⟨k, hk⟩ := h2 a ha
          exact ⟨k + 1, hk.snoc hi hf.1⟩
        · rw [if_neg e]; exact h2 i hi
      · rw [if_neg hf]; exact h2 i hi) (s := ((stU n ns r).1, false)) ⟨st_len n ns r, st_wk r⟩ n (Nat.le_refl _)
    exact this.2 b hb
theorem wk_st {n : Nat} {ns : List Nat} : ∀ k b v, Wk n ns b k v → v ≤ (stU n ns k).1.getD b 0
  | 0, b, v, ⟨f, h1, _, h3, h4⟩ => by
    have hb : b < n := by rw [← h3]; exact h1 0 (Nat.le_refl _)
    have : (stU n ns 0).1.getD b 0 = 0 := by
      show (List.replicate n (0 : Int)).getD b 0 = 0
      simp [List.getD_eq_getElem?_getD, hb]
    rw [this, ← h4, sumU]; exact Int.le_refl _
  | k + 1, b, v, ⟨f, h1, h2, h3, h4⟩ => by
    have ih := wk_st k (f k) _ ⟨f, fun i hi => h1 i (by omega), fun i hi => h2 i (by omega), rfl, rfl⟩
    have he := h2 k (by omega)
    rw [h3] at he
    have hb : b < n := by rw [← h3]; exact h1 _ (Nat.le_refl _)
    have := rnd_edge (ns := ns) (s := ((stU n ns k).1, false)) (st_len n ns k) (h1 k (by omega)) hb he
    rw [stU_s, ← h4, sumU_s, h3]
    have this : (stU n ns k).1.getD (f k) 0 + wtU ns (f k) b ≤ (rndU n ns n ((stU n ns k).1, false)).1.getD b 0 := this
    omega
theorem st_mono {n : Nat} {ns : List Nat} (i r : Nat) : ∀ d, (stU n ns r).1.getD i 0 ≤ (stU n ns (r + d)).1.getD i 0
  | 0 => Int.le_refl _
  | d + 1 => Int.le_trans (st_mono i r d) (st_le (r + d) i)
/-- It comes to rest. -/
theorem rest_un {n : Nat} {ns : List Nat} (S : Smi n ns) (hn : n ≤ 10) : ∃ r, r < n + 2 ∧ (stU n ns (r + 1)).2 = false := by
  refine ⟨n, by omega, ?_⟩
  cases hf : (stU n ns (n + 1)).2 with
  | false => rfl
  | true =>
    exfalso
    rw [stU_s] at hf
    obtain ⟨b, hb, hlt⟩ := rnd_yes (st_len n ns n) (Nat.le_refl _) hf
    have hlt : (stU n ns n).1.getD b 0 < (stU n ns (n + 1)).1.getD b 0 := hlt
    obtain ⟨k, hk⟩ := st_wk (n := n) (ns := ns) (n + 1) b hb
    obtain ⟨k', v', h1, h2, h3⟩ := wk_short S hn k k b _ (Nat.le_refl _) hk
    have h4 := wk_st k' b v' h3
    have h5 := st_mono (n := n) (ns := ns) b k' (n - k')
    rw [show k' + (n - k') = n by omega] at h5
    omega
/-- No number is great. -/
theorem upd_bd {ns : List Nat} {s : List Int × Bool} {b a : Nat} (hb : b < s.1.length) {C : Int} (h : ∀ i, 0 ≤ s.1.getD i 0 ∧ s.1.getD i 0 ≤ C) (i : Nat) : 0 ≤ (updU ns s b a).1.getD i 0 ∧ (updU ns s b a).1.getD i 0 ≤ C + 101 := by
  have h1 := upd_le (ns := ns) (s := s) (b := b) (a := a) hb i
  have h2 := h i
  refine ⟨by omega, ?_⟩
  unfold updU
  split
  · show (s.1.set b (s.1.getD a 0 + wtU ns a b)).getD i 0 ≤ _
    rw [getD_setI _ _ _ _ hb]
    have h3 := h a
    have h4 : wtU ns a b ≤ 101 := by unfold wtU; split <;> omega
    split <;> omega
  · omega
theorem row_bd {ns : List Nat} {n b : Nat} {s : List Int × Bool} (hl : s.1.length = n) (hb : b < n) {C : Int} (h : ∀ i, 0 ≤ s.1.getD i 0 ∧ s.1.getD i 0 ≤ C) : ∀ k, k ≤ n → ∀ i, 0 ≤ (rowU ns b k s).1.getD i 0 ∧ (rowU ns b k s).1.getD i 0 ≤ C + 101 * k
  | 0, _ => fun i => by have := h i; show 0 ≤ s.1.getD i 0 ∧ s.1.getD i 0 ≤ C + 101 * (0 : Nat); omega
  | k + 1, hk => fun i => by
    have := upd_bd (ns := ns) (s := rowU ns b k s) (b := b) (a := k) (by rw [row_len hl hb (by omega)]; exact hb) (row_bd hl hb h k (by omega)) i
    rw [rowU_s]; omega
theorem rnd_bd {ns : List Nat} {n : Nat} (hn : n ≤ 10) {s : List Int × Bool} (hl : s.1.length = n) {C : Int} (h : ∀ i, 0 ≤ s.1.getD i 0 ∧ s.1.getD i 0 ≤ C) : ∀ k, k ≤ n → ∀ i, 0 ≤ (rndU n ns k s).1.getD i 0 ∧ (rndU n ns k s).1.getD i 0 ≤ C + 1010 * k
  | 0, _ => fun i => by have := h i; show 0 ≤ s.1.getD i 0 ∧ s.1.getD i 0 ≤ C + 1010 * (0 : Nat); omega
  | k + 1, hk => fun i => by
    have := row_bd (ns := ns) (s := rndU n ns k s) (rnd_len hl (by omega)) (show k < n by omega) (rnd_bd hn hl h k (by omega)) n (Nat.le_refl _) i
    rw [rndU_s]; omega
theorem st_bd {n : Nat} (hn : n ≤ 10) (ns : List Nat) : ∀ r i, 0 ≤ (stU n ns r).1.getD i 0 ∧ (stU n ns r).1.getD i 0 ≤ 10100 * r
  | 0, i => by
    have : (stU n ns 0).1.getD i 0 = 0 := by
      show (List.replicate n (0 : Int)).getD i 0 = 0
      rw [List.getD_eq_getElem?_getD, List.getElem?_replicate]; split <;> rfl
    omega
  | r + 1, i => by
    have := rnd_bd hn (ns := ns) (s := ((stU n ns r).1, false)) (st_len n ns r) (st_bd hn ns r) n (Nat.le_refl _) i
    rw [stU_s]; omega
/-- Are these numbers right? -/
def unB (n : Nat) (ns : List Nat) (v : List Int) (step : Int) : Bool := decide (v.length = n) && decide (0 ≤ step ∧ step ≤ 1000000) && ((List.range n).all fun a => decide (-1000000 ≤ v.getD a 0 ∧ v.getD a 0 ≤ 1000000)) &&
  (List.range n).all fun a => (List.range n).all fun b => lt ns a b == decide (v.getD b 0 - v.getD a 0 > step)
theorem unB_iff {n : Nat} {ns : List Nat} {v : List Int} {step : Int} : unB n ns v step = true ↔ v.length = n ∧ (0 ≤ step ∧ step ≤ 1000000) ∧ (∀ a, a < n → -1000000 ≤ v.getD a 0 ∧ v.getD a 0 ≤ 1000000) ∧ ∀ a, a < n → ∀ b, b < n → lt ns a b = decide (v.getD b 0 - v.getD a 0 > step) := by
  unfold unB
  simp only [Bool.and_eq_true, decide_eq_true_eq, List.all_eq_true, List.mem_range, beq_iff_eq, and_assoc]
/-- What rests is right. -/
theorem un_right {n : Nat} {ns : List Nat} (hn : n ≤ 10) (hv : Vld n ns) (hok : okB n ns = true) {r : Nat} (hr : r < n + 2) (h : (stU n ns (r + 1)).2 = false) : unB n ns (stU n ns (r + 1)).1 100 = true := by
  rw [stU_s] at h ⊢
  obtain ⟨h1, h2⟩ := rnd_no h
  rw [h1]
  have hl := st_len n ns r
  have hb := st_bd hn ns r
  have h2 : ∀ b, b < n → ∀ a, a < n → fireU ns (stU n ns r).1 b a = false := h2
  show unB n ns (stU n ns r).1 100 = true
  generalize (stU n ns r).1 = x at *
  refine unB_iff.2 ⟨hl, by decide, fun a _ => by have := hb a; omega, fun a ha b hb' => ?_⟩
  have edge : ∀ a b, a < n → b < n → a ≠ b → lt ns b a = false → x.getD a 0 + wtU ns a b ≤ x.getD b 0 := fun a b ha hb h3 h4 => by
    have := h2 b hb a ha
    unfold fireU at this
    rw [adjU_iff.2 ⟨h3, h4⟩, Bool.true_and, decide_eq_false_iff_not] at this
    omega
  have irr : ∀ a, a < n → lt ns a a = false := fun a ha => okB_irr hok ha
  have asy : lt ns a b = true → lt ns b a = false := fun h => by
    cases hq : lt ns b a with
    | false => rfl
    | true => have := okB_tr hok hb' ha h hq; rw [irr b hb'] at this; cases this
  by_cases hab : a = b
  · subst hab
    rw [irr a ha]
    symm
    rw [decide_eq_false_iff_not]; omega
  cases hq : lt ns a b with
  | true =>
    have := edge a b ha hb' hab (asy hq)
    unfold wtU at this
    rw [if_pos hq] at this
    symm
    rw [decide_eq_true_eq]; omega
  | false =>
    have := edge b a hb' ha (Ne.symm hab) hq
    symm
    rw [decide_eq_false_iff_not]
    unfold wtU at this
    split at this <;> omega
/-- Who has numbers that are right has neither kind of four points. -/
theorem no_un {n : Nat} {ns : List Nat} {v : List Int} {step : Int} (h : unB n ns v step = true) : qdY n (twQ ns) = false ∧ qdY n (thQ ns) = false := by
  obtain ⟨_, _, _, h4⟩ := unB_iff.1 h
  constructor
  · rw [Bool.eq_false_iff]
    intro hq
    obtain ⟨a, b, c, d, ha, hb, hc, hd, _, h5⟩ := qdY_ex.1 hq
    unfold twQ at h5
    rw [h4 a ha b hb, h4 c hc d hd, h4 a ha d hd, h4 c hc b hb] at h5
    simp only [Bool.and_eq_true, decide_eq_true_eq, Bool.not_eq_true', decide_eq_false_iff_not] at h5
    omega
  · rw [Bool.eq_false_iff]
    intro hq
    obtain ⟨a, b, c, d, ha, hb, hc, hd, _, h5⟩ := qdY_ex.1 hq
    unfold thQ frQ at h5
    rw [h4 a ha b hb, h4 b hb c hc, h4 a ha d hd, h4 d hd a ha, h4 b hb d hd, h4 d hd b hb, h4 c hc d hd, h4 d hd c hc] at h5
    simp only [Bool.and_eq_true, decide_eq_true_eq, Bool.not_eq_true', decide_eq_false_iff_not] at h5
    omega
theorem smi_of {n : Nat} {ns : List Nat} (hv : Vld n ns) (hok : okB n ns = true) (h1 : qdY n (twQ ns) = false) (h2 : qdY n (thQ ns) = false) : Smi n ns := by
  refine ⟨hv, hok, fun a b c d ha hb hc hd hD => ?_, fun a b c d ha hb hc hd hD => ?_⟩
  · cases hq : twQ ns a b c d with
    | false => rfl
    | true => rw [qdY_ex.2 ⟨a, b, c, d, ha, hb, hc, hd, hD, hq⟩] at h1; cases h1
  · cases hq : thQ ns a b c d with
    | false => rfl
    | true => rw [qdY_ex.2 ⟨a, b, c, d, ha, hb, hc, hd, hD, hq⟩] at h2; cases h2
/-- There are units just if there is neither. -/
theorem scott {n : Nat} {ns : List Nat} (hn : n ≤ 10) (hv : Vld n ns) (hok : okB n ns = true) : (unR n ns).isSome = (!qdY n (twQ ns) && !qdY n (thQ ns)) := by
  cases hr : unR n ns with
  | some r =>
    obtain ⟨h1, h2, _⟩ := qdF_all hr
    obtain ⟨h3, h4⟩ := no_un (un_right hn hv hok h1 (by simpa using h2))
    rw [h3, h4]; rfl
  | none =>
    cases h1 : qdY n (twQ ns) with
    | true => rfl
    | false =>
      cases h2 : qdY n (thQ ns) with
      | true => rfl
      | false =>
        exfalso
        obtain ⟨r, h3, h4⟩ := rest_un (smi_of hv hok h1 h2) hn
        have : ∀ {m : Nat}, qdF (fun r => !(stU n ns (r + 1)).2) m = none → ∀ x, x < m → (!(stU n ns (x + 1)).2) = false := fun {m} => by
          induction m with
          | zero => exact fun _ x hx => by omega
          | succ m ih =>
            intro h x hx
            rw [qdF] at h
            cases hm : qdF (fun r => !(stU n ns (r + 1)).2) m with
            | some a => rw [hm] at h; cases h
            | none =>
              rw [hm] at h
              change (if (!(stU n ns (m + 1)).2) = true then some m else none) = none at h
              by_cases hxm : x = m
              · subst hxm
                cases hq : (!(stU n ns (x + 1)).2) with
                | false => rfl
                | true => rw [hq, if_pos rfl] at h; cases h
              · exact ih hm x (by omega)
        have := this hr r h3
        rw [h4] at this; cases this
end Go.Proofs.YtkapohfnoflhlaaDoor
