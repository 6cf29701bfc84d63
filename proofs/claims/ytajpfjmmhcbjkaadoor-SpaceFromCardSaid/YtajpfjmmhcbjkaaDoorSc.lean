import Derived.Test.YtajpfjmmhcbjkaaDoorSb
import Derived.Test.YtajpfjmmhcbjkaaDoorGf
set_option linter.unusedSimpArgs false
set_option linter.unusedVariables false
set_option linter.unusedSectionVars false
set_option maxRecDepth 20000
namespace Go.Proofs.YtajpfjmmhcbjkaaDoor
attribute [local irreducible] QOp aL aC qL
theorem iterN_hit {α : Type} {f : Nat → α → α} {Q P : α → Prop} (hQ : ∀ i y, Q y → Q (f i y)) (hP : ∀ i y, P y → P (f i y)) {i : Nat} (h : ∀ y, Q y → P (f i y)) : ∀ {k : Nat}, i < k → ∀ {x : α}, Q x → Q (iterN k f x) ∧ P (iterN k f x)
  | 0, hi, _, _ => absurd hi (Nat.not_lt_zero _)
  | k + 1, hi, x, hx => by
    by_cases e : i = k
    · subst e
      have hq : Q (iterN i f x) := by
        clear hi h hP
        induction i with
        | zero => exact hx
        | succ j ih => exact hQ j _ ih
      exact ⟨hQ i _ hq, h _ hq⟩
    · have := iterN_hit hQ hP h (k := k) (by omega) hx
      exact ⟨hQ k _ this.1, hP k _ this.2⟩
theorem iterN_ind {α : Type} {f : Nat → α → α} {Q : α → Prop} {k : Nat} (hQ : ∀ i y, i < k → Q y → Q (f i y)) {x : α} (hx : Q x) : Q (iterN k f x) := by
  induction k with
  | zero => exact hx
  | succ j ih => exact hQ j _ (Nat.lt_succ_self j) (ih fun i y hi => hQ i y (by omega))
/-- One pair: both have the lesser of their labels. -/
def swS (ns : List Nat) (a b : Nat) (L : List Nat) : List Nat := if lt ns a b = true then (if L.getD a 0 < L.getD b 0 then L.set b (L.getD a 0) else L.set a (L.getD b 0)) else L
def swI (n : Nat) (ns : List Nat) (a : Nat) (L : List Nat) : List Nat := iterN n (swS ns a) L
def swpR (n : Nat) (ns : List Nat) (L : List Nat) : List Nat := iterN n (swI n ns) L
def swpN (n : Nat) (ns : List Nat) (r : Nat) : List Nat := iterN r (fun _ => swpR n ns) (List.range n)
def plL (n : Nat) (ns : List Nat) : List Nat := swpN n ns n
inductive Cnn (n : Nat) (ns : List Nat) (a : Nat) : Nat → Prop where
  | self : Cnn n ns a a
  | step (b c : Nat) (h : Cnn n ns a b) (hb : b < n) (hc : c < n) (hl : lt ns b c = true ∨ lt ns c b = true) : Cnn n ns a c
theorem Cnn.trans {n : Nat} {ns : List Nat} {a b c : Nat} (h : Cnn n ns a b) (k : Cnn n ns b c) : Cnn n ns a c := by
  induction k with
  | self => exact h
  | step b c _ hb hc hl ih => exact .step b c ih hb hc hl
theorem Cnn.symm {n : Nat} {ns : List Nat} {a b : Nat} (h : Cnn n ns a b) : Cnn n ns b a := by
  induction h with
  | self => exact .self
  | step b c _ hb hc hl ih => exact (Cnn.step c b .self hc hb hl.symm).trans ih
theorem gset (l : List Nat) (x v b : Nat) (h : v ≤ l.getD x 0) : (l.set x v).getD b 0 = if b = x then v else l.getD b 0 := by
  by_cases hx : x < l.length
  · exact getD_setD l x v b hx
  · rw [List.set_eq_of_length_le (by omega)]
    split
    · rename_i e
      subst e
      have : l.getD b 0 = 0 := by rw [List.getD_eq_getElem?_getD, List.getElem?_eq_none (by omega)]; rfl
      omega
    · rfl
theorem swS_len (ns : List Nat) (a b : Nat) (L : List Nat) : (swS ns a b L).length = L.length := by unfold swS; split <;> (try split) <;> simp
theorem swS_le (ns : List Nat) (a b : Nat) (L : List Nat) (k : Nat) : (swS ns a b L).getD k 0 ≤ L.getD k 0 := by
  unfold swS
  split
  · split
    · rw [gset _ _ _ _ (by omega)]; split
      · rename_i e; subst e; omega
      · omega
    · rw [gset _ _ _ _ (by omega)]; split
      · rename_i e; subst e; omega
      · omega
  · exact Nat.le_refl _
theorem swS_eq {ns : List Nat} {a b : Nat} (hl : lt ns a b = true) (L : List Nat) : (swS ns a b L).getD a 0 ≤ L.getD b 0 ∧ (swS ns a b L).getD b 0 ≤ L.getD a 0 := by
  unfold swS
  rw [if_pos hl]
  split
  · rw [gset _ _ _ _ (by omega), gset _ _ _ _ (by omega)]
    split <;> split <;> omega
  · rw [gset _ _ _ _ (by omega), gset _ _ _ _ (by omega)]
    split <;> split <;> omega
theorem swS_new {n : Nat} {ns : List Nat} {a b : Nat} (ha : a < n) (hb : b < n) {A : Nat → Nat → Prop} (hA : ∀ i j v, i < n → j < n → (lt ns i j = true ∨ lt ns j i = true) → A i v → A j v) {L : List Nat} (h : ∀ k, k < n → A k (L.getD k 0)) : ∀ k, k < n → A k ((swS ns a b L).getD k 0) := fun k hk => by
  unfold swS
  split
  · rename_i hl
    split
    · rw [gset _ _ _ _ (by omega)]; split
      · rename_i e; subst e; exact hA a k _ ha hk (.inl hl) (h a ha)
      · exact h k hk
    · rw [gset _ _ _ _ (by omega)]; split
      · rename_i e; subst e; exact hA b k _ hb hk (.inr hl) (h b hb)
      · exact h k hk
  · exact h k hk
structure Dwn (L L' : List Nat) : Prop where
  len : L'.length = L.length
  le : ∀ k, L'.getD k 0 ≤ L.getD k 0
theorem Dwn.refl (L : List Nat) : Dwn L L := ⟨rfl, fun _ => Nat.le_refl _⟩
theorem Dwn.trans {a b c : List Nat} (h : Dwn a b) (k : Dwn b c) : Dwn a c := ⟨k.len.trans h.len, fun i => Nat.le_trans (k.le i) (h.le i)⟩
theorem swS_dn (ns : List Nat) (a b : Nat) (L : List Nat) : Dwn L (swS ns a b L) := ⟨swS_len _ _ _ _, swS_le _ _ _ _⟩
theorem swI_dn (n : Nat) (ns : List Nat) (a : Nat) (L : List Nat) : Dwn L (swI n ns a L) := iterN_ind (Q := Dwn L) (fun _ _ _ h => h.trans (swS_dn _ _ _ _)) (Dwn.refl L)
theorem swpR_dn (n : Nat) (ns : List Nat) (L : List Nat) : Dwn L (swpR n ns L) := iterN_ind (Q := Dwn L) (fun _ _ _ h => h.trans (swI_dn _ _ _ _)) (Dwn.refl L)
theorem swpN_dn (n : Nat) (ns : List Nat) (r : Nat) : Dwn (List.range n) (swpN n ns r) := iterN_ind (Q := Dwn _) (fun _ _ _ h => h.trans (swpR_dn _ _ _)) (Dwn.refl _)
theorem swI_hit {n : Nat} {ns : List Nat} {a b : Nat} (hb : b < n) (hl : lt ns a b = true) (L : List Nat) : (swI n ns a L).getD a 0 ≤ L.getD b 0 ∧ (swI n ns a L).getD b 0 ≤ L.getD a 0 := by
  have := iterN_hit (f := swS ns a) (Q := Dwn L) (P := fun y => y.getD a 0 ≤ L.getD b 0 ∧ y.getD b 0 ≤ L.getD a 0) (fun i y h => h.trans (swS_dn _ _ _ _))
    (fun i y h => ⟨Nat.le_trans (swS_le _ _ _ _ _) h.1, Nat.le_trans (swS_le _ _ _ _ _) h.2⟩) (i := b)
    (fun y h => ⟨Nat.le_trans (swS_eq hl y).1 (h.le b), Nat.le_trans (swS_eq hl y).2 (h.le a)⟩) hb (Dwn.refl L)
  exact this.2
theorem swpR_hit {n : Nat} {ns : List Nat} {a b : Nat} (ha : a < n) (hb : b < n) (hl : lt ns a b = true) (L : List Nat) : (swpR n ns L).getD a 0 ≤ L.getD b 0 ∧ (swpR n ns L).getD b 0 ≤ L.getD a 0 := by
  have := iterN_hit (f := swI n ns) (Q := Dwn L) (P := fun y => y.getD a 0 ≤ L.getD b 0 ∧ y.getD b 0 ≤ L.getD a 0) (fun i y h => h.trans (swI_dn _ _ _ _))
    (fun i y h => ⟨Nat.le_trans ((swI_dn _ _ _ _).le _) h.1, Nat.le_trans ((swI_dn _ _ _ _).le _) h.2⟩) (i := a)
    (fun y h => ⟨Nat.le_trans (swI_hit hb hl y).1 (h.le b), Nat.le_trans (swI_hit hb hl y).2 (h.le a)⟩) ha (Dwn.refl L)
  exact this.2
theorem swpR_new {n : Nat} {ns : List Nat} {A : Nat → Nat → Prop} (hA : ∀ i j v, i < n → j < n → (lt ns i j = true ∨ lt ns j i = true) → A i v → A j v) {L : List Nat} (h : ∀ k, k < n → A k (L.getD k 0)) : ∀ k, k < n → A k ((swpR n ns L).getD k 0) :=
  iterN_ind (Q := fun L : List Nat => ∀ k, k < n → A k (L.getD k 0)) (fun a y ha hy => iterN_ind (Q := fun L : List Nat => ∀ k, k < n → A k (L.getD k 0)) (fun b z hb hz => swS_new ha hb hA hz) hy) h
theorem range_get {n k : Nat} (h : k < n) : (List.range n).getD k 0 = k := by simp [List.getD_eq_getElem?_getD, h]
theorem swpN_cn {n : Nat} {ns : List Nat} (r : Nat) : ∀ k, k < n → (swpN n ns r).getD k 0 < n ∧ Cnn n ns k ((swpN n ns r).getD k 0) := by
  refine iterN_ind (Q := fun L : List Nat => ∀ k, k < n → L.getD k 0 < n ∧ Cnn n ns k (L.getD k 0)) (fun i y _ hy => ?_) (fun k hk => by rw [range_get hk]; exact ⟨hk, .self⟩)
  exact swpR_new (A := fun k v => v < n ∧ Cnn n ns k v) (fun i j v hi hj hl h => ⟨h.1, (Cnn.step j i .self hj hi hl.symm).trans h.2⟩) hy
def thC (n : Nat) (L : List Nat) (c : Nat) : Nat := (List.range n).countP fun k => decide (L.getD k 0 ≤ c)
def ThCl (n : Nat) (ns L : List Nat) (c : Nat) : Prop := ∀ a b, a < n → b < n → (lt ns a b = true ∨ lt ns b a = true) → L.getD a 0 ≤ c → L.getD b 0 ≤ c
theorem sw_claim {n : Nat} {ns : List Nat} {c : Nat} (hn : 0 < n) : ∀ r, ThCl n ns (swpN n ns r) c ∨ r + 1 ≤ thC n (swpN n ns r) c
  | 0 => .inr (by
    refine List.countP_pos_iff.2 ⟨0, List.mem_range.2 hn, ?_⟩
    rw [decide_eq_true_eq]
    show (List.range n).getD 0 0 ≤ c
    rw [range_get hn]; exact Nat.zero_le _)
  | r + 1 => by
    have e : swpN n ns (r + 1) = swpR n ns (swpN n ns r) := rfl
    rw [e]
    have ih := sw_claim (ns := ns) (c := c) hn r
    generalize swpN n ns r = L at *
    have hd := swpR_dn n ns L
    by_cases hc : ThCl n ns L c
    · refine .inl fun a b ha hb hl h => ?_
      have h1 := swpR_new (n := n) (ns := ns) (A := fun k v => v ≤ c → L.getD k 0 ≤ c) (fun i j v hi hj hl h hv => hc i j hi hj hl (h hv)) (L := L) (fun k _ h => h)
      have h2 := hc a b ha hb hl (h1 a ha h)
      exact Nat.le_trans (hd.le b) h2
    · refine .inr ?_
      have hr := ih.resolve_left hc
      unfold ThCl at hc
      simp only [Classical.not_forall] at hc
      obtain ⟨a, b, ha, hb, hl, h1, h2⟩ := hc
      have h3 : (swpR n ns L).getD b 0 ≤ c := by
        rcases hl with hl | hl
        · exact Nat.le_trans (swpR_hit ha hb hl L).2 h1
        · exact Nat.le_trans (swpR_hit hb ha hl L).1 h1
      have e1 := cp_one (p := fun k => decide (L.getD k 0 ≤ c)) (q := fun k => decide (k = b) || decide (L.getD k 0 ≤ c)) hb (fun t _ ht => by simp [ht]) (decide_eq_false h2) (by simp)
      have e2 : (List.range n).countP (fun k => decide (k = b) || decide (L.getD k 0 ≤ c)) ≤ thC n (swpR n ns L) c := List.countP_mono_left fun t _ ht => by
        rw [Bool.or_eq_true, decide_eq_true_eq, decide_eq_true_eq] at ht
        rw [decide_eq_true_eq]
        rcases ht with rfl | ht
        · exact h3
        · exact Nat.le_trans (hd.le t) ht
      unfold thC at *
      omega
theorem pl_st {n : Nat} {ns : List Nat} {a b : Nat} (ha : a < n) (hb : b < n) (hl : lt ns a b = true ∨ lt ns b a = true) : (plL n ns).getD a 0 = (plL n ns).getD b 0 := by
  have h : ∀ c, ThCl n ns (plL n ns) c := fun c => (sw_claim (ns := ns) (c := c) (by omega) n).resolve_right fun h => by
    have := List.countP_le_length (p := fun k => decide ((swpN n ns n).getD k 0 ≤ c)) (l := List.range n)
    rw [List.length_range] at this
    unfold thC at h
    omega
  exact Nat.le_antisymm (h _ b a hb ha hl.symm (Nat.le_refl _)) (h _ a b ha hb hl (Nat.le_refl _))
theorem pl_cn {n : Nat} {ns : List Nat} {a b : Nat} (h : Cnn n ns a b) : (plL n ns).getD a 0 = (plL n ns).getD b 0 := by
  induction h with
  | self => rfl
  | step b c _ hb hc hl ih => rw [ih]; exact pl_st hb hc hl
theorem pl_ok {n : Nat} {ns : List Nat} {k : Nat} (hk : k < n) : (plL n ns).getD k 0 ≤ k ∧ Cnn n ns k ((plL n ns).getD k 0) ∧ (plL n ns).getD ((plL n ns).getD k 0) 0 = (plL n ns).getD k 0 := by
  have h1 := (swpN_cn (ns := ns) n k hk).2
  refine ⟨?_, h1, (pl_cn h1).symm⟩
  have := (swpN_dn n ns n).le k
  rwa [range_get hk] at this
theorem pl_iff {n : Nat} {ns : List Nat} {a b : Nat} (ha : a < n) (hb : b < n) : (plL n ns).getD a 0 = (plL n ns).getD b 0 ↔ Cnn n ns a b :=
  ⟨fun h => by
    have h1 := (pl_ok (ns := ns) ha).2.1
    have h2 := (pl_ok (ns := ns) hb).2.1
    rw [h] at h1
    exact h1.trans h2.symm, pl_cn⟩
def pcS (n : Nat) (ns : List Nat) (i : Nat) : Nat := bs (fun k => decide ((plL n ns).getD k 0 = i)) n
def pcsT (n : Nat) (ns : List Nat) : Nat → List Nat
  | 0 => []
  | k + 1 => if 0 < pcS n ns k then pcsT n ns k ++ [pcS n ns k] else pcsT n ns k
theorem pcsT_s (n : Nat) (ns : List Nat) (k : Nat) : pcsT n ns (k + 1) = if 0 < pcS n ns k then pcsT n ns k ++ [pcS n ns k] else pcsT n ns k := rfl
theorem pcsT_len (n : Nat) (ns : List Nat) : ∀ k, (pcsT n ns k).length ≤ k
  | 0 => Nat.le_refl _
  | k + 1 => by
    have := pcsT_len n ns k
    rw [pcsT_s]; split
    · rw [List.length_append, List.length_singleton]; omega
    · omega
theorem pcS_bit {n : Nat} {ns : List Nat} {i k : Nat} : (pcS n ns i).testBit k = true ↔ k < n ∧ (plL n ns).getD k 0 = i := by
  unfold pcS; rw [bs_bit, Bool.and_eq_true, decide_eq_true_eq, decide_eq_true_eq]
theorem pcsT_skip {n : Nat} {ns : List Nat} {j : Nat} : ∀ (d : Nat), (∀ i, j ≤ i → i < j + d → pcS n ns i = 0) → pcsT n ns (j + d) = pcsT n ns j
  | 0, _ => rfl
  | d + 1, h => by
    rw [← Nat.add_assoc, pcsT_s, h (j + d) (by omega) (by omega), if_neg (by omega)]
    exact pcsT_skip d fun i h1 h2 => h i h1 (by omega)
/-- What is left behind the first j. -/
def lfS (n : Nat) (ns : List Nat) (j : Nat) : Nat := bs (fun k => decide (j ≤ (plL n ns).getD k 0)) n
theorem lfS_bit {n : Nat} {ns : List Nat} {j k : Nat} : (lfS n ns j).testBit k = true ↔ k < n ∧ j ≤ (plL n ns).getD k 0 := by
  unfold lfS; rw [bs_bit, Bool.and_eq_true, decide_eq_true_eq, decide_eq_true_eq]
theorem lfS_zero (n : Nat) (ns : List Nat) : lfS n ns 0 = 2 ^ n - 1 := (bs_eq (by have := p2_pos n; omega) fun j hj => by rw [Nat.testBit_two_pow_sub_one]; simp [hj]).symm
theorem zero_of {x : Nat} (h : ∀ k, x.testBit k = true → False) : x = 0 := Nat.eq_of_testBit_eq fun k => by
  rw [Nat.zero_testBit]
  cases hq : x.testBit k
  · rfl
  · exact (h k hq).elim
theorem lfS_done {n : Nat} {ns : List Nat} {j : Nat} (hj : j ≤ n) (h : lfS n ns j = 0) : pcsT n ns n = pcsT n ns j := by
  have := pcsT_skip (n := n) (ns := ns) (j := j) (n - j) fun i h1 _ => zero_of fun k hk => by
    obtain ⟨a, b⟩ := pcS_bit.1 hk
    have : (lfS n ns j).testBit k = true := lfS_bit.2 ⟨a, by omega⟩
    rw [h, Nat.zero_testBit] at this; cases this
  rwa [Nat.add_sub_cancel' hj] at this
/-- The lowest point that is left. -/
theorem lfS_low {n : Nat} {ns : List Nat} {j m : Nat} (hm : (lfS n ns j).testBit m = true) (hlo : ∀ k, k < m → (lfS n ns j).testBit k = false) :
    m < n ∧ j ≤ m ∧ (plL n ns).getD m 0 = m ∧ pcsT n ns (m + 1) = pcsT n ns j ++ [pcS n ns m] ∧ ndiff (lfS n ns j) (pcS n ns m) = lfS n ns (m + 1) := by
  obtain ⟨h1, h2⟩ := lfS_bit.1 hm
  obtain ⟨p1, p2, p3⟩ := pl_ok (ns := ns) h1
  have no : ∀ k, k < n → j ≤ (plL n ns).getD k 0 → (plL n ns).getD k 0 < m → False := fun k hk hj hlt => by
    have := hlo _ hlt
    rw [Bool.eq_false_iff] at this
    exact this (lfS_bit.2 ⟨by omega, by rw [(pl_ok (ns := ns) hk).2.2]; exact hj⟩)
  have e : (plL n ns).getD m 0 = m := by
    rcases Nat.lt_or_ge ((plL n ns).getD m 0) m with h | h
    · exact (no m h1 h2 h).elim
    · omega
  rw [e] at h2
  refine ⟨h1, h2, e, ?_, ?_⟩
  · have hs := pcsT_skip (n := n) (ns := ns) (j := j) (m - j) fun i a b => zero_of fun k hk => by
      obtain ⟨c, d⟩ := pcS_bit.1 hk
      exact no k c (by omega) (by omega)
    rw [Nat.add_sub_cancel' h2] at hs
    rw [pcsT_s, hs, if_pos]
    have : (pcS n ns m).testBit m = true := pcS_bit.2 ⟨h1, e⟩
    rcases Nat.eq_zero_or_pos (pcS n ns m) with h | h
    · rw [h, Nat.zero_testBit] at this; cases this
    · exact h
  · refine Nat.eq_of_testBit_eq fun k => ?_
    rw [testBit_ndiff, Bool.eq_iff_iff, Bool.and_eq_true, Bool.not_eq_true', Bool.eq_false_iff, Ne, pcS_bit, lfS_bit, lfS_bit]
    constructor
    · rintro ⟨⟨a, b⟩, c⟩
      refine ⟨a, ?_⟩
      rcases Nat.lt_or_ge ((plL n ns).getD k 0) m with h | h
      · exact (no k a b h).elim
      · have : (plL n ns).getD k 0 ≠ m := fun e => c ⟨a, e⟩
        omega
    · rintro ⟨a, b⟩
      exact ⟨⟨a, by omega⟩, fun c => by omega⟩
/-! A piece: closed till nothing comes. -/
def stp (n : Nat) (ns : List Nat) (p : Nat) : Nat := clN n (ofn n (dualP ns)) (clN n ns p)
theorem stp_lt (n : Nat) (ns : List Nat) (p : Nat) : stp n ns p < 2 ^ n := clN_lt _ _ _
theorem stp_ext {n : Nat} {ns : List Nat} {p : Nat} (hp : p < 2 ^ n) : sle p (stp n ns p) := (cl_ext hp).trans (cl_ext (clN_lt _ _ _))
theorem dlt_eq {n : Nat} {ns : List Nat} {a b : Nat} (ha : a < n) (hb : b < n) : lt (ofn n (dualP ns)) a b = lt ns b a := by rw [ofn_lt _ ha hb]; rfl
theorem stp_in {n : Nat} {ns : List Nat} {p m : Nat} (h : sle p (pcS n ns m)) : sle (stp n ns p) (pcS n ns m) := fun i hi => by
  obtain ⟨h1, k, h2, h3, h4⟩ := clN_bit.1 hi
  obtain ⟨_, j, h6, h7, h8⟩ := clN_bit.1 h3
  obtain ⟨_, e⟩ := pcS_bit.1 (h j h7)
  have e2 : (plL n ns).getD k 0 = m := by
    rcases h8 with rfl | h8
    · exact e
    · rw [pl_st h2 h6 (.inl h8), e]
  refine pcS_bit.2 ⟨h1, ?_⟩
  rcases h4 with rfl | h4
  · exact e2
  · rw [dlt_eq h1 h2] at h4
    rw [pl_st h1 h2 (.inr h4), e2]
theorem stp_fix {n : Nat} {ns : List Nat} {p m : Nat} (hpn : p < 2 ^ n) (hm : m < n) (e : (plL n ns).getD m 0 = m) (hp : p.testBit m = true) (h : sle p (pcS n ns m)) (hf : stp n ns p = p) : p = pcS n ns m := by
  refine sle.antisymm h fun k hk => ?_
  obtain ⟨h1, h2⟩ := pcS_bit.1 hk
  have hc : Cnn n ns m k := (pl_iff hm h1).1 (by rw [e, h2])
  clear h1 h2 hk
  induction hc with
  | self => exact hp
  | step b c _ hb hc hl ih =>
    rw [← hf]
    rcases hl with hl | hl
    · exact clN_bit.2 ⟨hc, b, hb, cl_ext hpn b ih, .inr (by rw [dlt_eq hc hb]; exact hl)⟩
    · exact cl_ext (clN_lt _ _ _) c (clN_bit.2 ⟨hc, b, hb, ih, .inr hl⟩)
theorem sle_le {a b : Nat} (h : sle a b) : a ≤ b := by
  have : a ||| b = b := Nat.eq_of_testBit_eq fun i => by
    rw [Nat.testBit_or]
    cases hq : a.testBit i
    · rfl
    · rw [h i hq]; rfl
  rw [← this]; exact Nat.left_le_or
/-! The lowest point of a set. -/
def lowb (x : Nat) : Nat := x &&& (1024 - x)
def lowk (x : Nat) : Nat := ((List.range 10).find? x.testBit).getD 0
theorem low_all : ((List.range 1024).all fun x => x == 0 || ((BitVec.ofInt 64 (x : Int) &&& BitVec.ofInt 64 (-(x : Int))).toNat == lowb x && lowb x == 2 ^ lowk x && x.testBit (lowk x) && (List.range (lowk x)).all fun k => !x.testBit k)) = true := by kernel_rfl
theorem low_at {x : Nat} (h : x < 1024) (h0 : 0 < x) : (BitVec.ofInt 64 (x : Int) &&& BitVec.ofInt 64 (-(x : Int))).toNat = lowb x ∧ lowb x = 2 ^ lowk x ∧ x.testBit (lowk x) = true ∧ ∀ k, k < lowk x → x.testBit k = false := by
  have := List.all_eq_true.1 low_all x (List.mem_range.2 h)
  rw [Bool.or_eq_true] at this
  rcases this with h1 | h1
  · rw [beq_iff_eq] at h1; omega
  · simp only [Bool.and_eq_true, beq_iff_eq, List.all_eq_true, List.mem_range, Bool.not_eq_true'] at h1
    exact ⟨h1.1.1.1, h1.1.1.2, h1.1.2, h1.2⟩
end Go.Proofs.YtajpfjmmhcbjkaaDoor
