import Derived.Test.YtdkkalplgfhpdaaDoorWk
import Derived.Test.YtdkkalplgfhpdaaDoorFi
set_option linter.unusedSimpArgs false
set_option linter.unusedVariables false
set_option linter.unusedSectionVars false
set_option maxRecDepth 20000
namespace Go.Proofs.YtdkkalplgfhpdaaDoor
theorem cntF_le {α : Type} {P Q : α → Bool} : ∀ {L : List α}, (∀ s ∈ L, P s = true → Q s = true) → L.countP P ≤ L.countP Q
  | [], _ => Nat.le_refl _
  | x :: L, h => by
    have ih := cntF_le (P := P) (Q := Q) (L := L) fun s hs => h s (List.mem_cons_of_mem _ hs)
    have hx := h x (List.mem_cons_self ..)
    rw [List.countP_cons, List.countP_cons]
    cases hp : P x with
    | true => rw [hx hp]; simp; omega
    | false => simp; split <;> omega
theorem cntF_lt {α : Type} {P Q : α → Bool} {a : α} : ∀ {L : List α}, a ∈ L → (∀ s ∈ L, P s = true → Q s = true) → Q a = true → P a = false → L.countP P + 1 ≤ L.countP Q
  | [], ha, _, _, _ => by cases ha
  | x :: L, ha, h, hq, hp => by
    rw [List.countP_cons, List.countP_cons]
    rcases List.mem_cons.1 ha with rfl | ha
    · have := cntF_le (P := P) (Q := Q) (L := L) fun s hs => h s (List.mem_cons_of_mem _ hs)
      rw [hp, hq]; simp; omega
    · have ih := cntF_lt ha (fun s hs => h s (List.mem_cons_of_mem _ hs)) hq hp
      have hx := h x (List.mem_cons_self ..)
      cases hpx : P x with
      | true => rw [hx hpx]; simp; omega
      | false => simp; split <;> omega
/-- All bits of s are bits of t. -/
def subN (s t : Nat) : Prop := ∀ i, s.testBit i = true → t.testBit i = true
theorem mbs_cnt (s : Nat) : (mbs s).length = (List.range 10).countP s.testBit := by unfold mbs; rw [List.countP_eq_length_filter]
theorem mbs_sub {s t : Nat} (h : subN s t) : (mbs s).length ≤ (mbs t).length := by
  rw [mbs_cnt, mbs_cnt]; exact cntF_le fun i _ hi => h i hi
theorem mbs_sub_lt {s t : Nat} (ht : t < 1024) (h : subN s t) {i : Nat} (h1 : t.testBit i = true) (h2 : s.testBit i = false) : (mbs s).length < (mbs t).length := by
  rw [mbs_cnt, mbs_cnt]
  have hi : i < 10 := by
    rcases Nat.lt_or_ge i 10 with h | h
    · exact h
    · have : t.testBit i = false := Nat.testBit_lt_two_pow (Nat.lt_of_lt_of_le ht (by rw [show 1024 = 2 ^ 10 by rfl]; exact Nat.pow_le_pow_right (by decide) h))
      rw [this] at h1; cases h1
  exact cntF_lt (List.mem_range.2 hi) (fun j _ hj => h j hj) h1 h2
/-- The sets are a chain. -/
def ChN (D : List Nat) : Prop := ∀ s ∈ D, ∀ t ∈ D, subN s t ∨ subN t s
theorem chN_lt {D : List Nat} (hc : ChN D) {s t : Nat} (hs : s ∈ D) (ht : t ∈ D) (h : (mbs s).length < (mbs t).length) : subN s t := by
  rcases hc s hs t ht with h1 | h1
  · exact h1
  · have := mbs_sub h1; omega
/-- p is in own: all that have not p are less. -/
theorem chN_in {D : List Nat} (hb : ∀ s ∈ D, s < 1024) (hc : ChN D) {own p : Nat} (ho : own ∈ D) (hp : own.testBit p = true) : cWo p D ≤ cSm own D :=
  cntF_le fun s hs h => by
    have h2 : s.testBit p = false := by cases hb : s.testBit p <;> simp_all
    rw [decide_eq_true_eq]
    rcases hc s hs own ho with h1 | h1
    · exact mbs_sub_lt (hb own ho) h1 hp h2
    · rw [h1 p hp] at h2; cases h2
/-- p is not in own: it, and all that are less, have not p. -/
theorem chN_out {D : List Nat} (hc : ChN D) {own p : Nat} (ho : own ∈ D) (hp : own.testBit p = false) : cSm own D + 1 ≤ cWo p D :=
  cntF_lt ho (fun s hs h => by
    have h1 := chN_lt hc hs ho (of_decide_eq_true h)
    cases hb : s.testBit p
    · rfl
    · rw [h1 p hb] at hp; cases hp) (by rw [hp]; rfl) (by rw [decide_eq_false_iff_not]; omega)
theorem ch_of {n : Nat} {ns : List Nat} (hv : Vld n ns) (hok : okB n ns = true) (h : ∀ a b c d, a < n → b < n → c < n → d < n → qdD a b c d = true → twQ ns a b c d = false) : ChN (dsN n ns) := by
  intro s hs t ht
  rw [dsN_mem hv] at hs ht
  obtain ⟨b, hb, rfl⟩ := List.getElem_of_mem hs
  obtain ⟨d, hd, rfl⟩ := List.getElem_of_mem ht
  have hl := hv.1
  by_cases h1 : subN ns[b] ns[d]
  · exact .inl h1
  by_cases h2 : subN ns[d] ns[b]
  · exact .inr h2
  exfalso
  unfold subN at h1 h2
  rw [Classical.not_forall] at h1 h2
  obtain ⟨a, h1⟩ := h1
  obtain ⟨c, h2⟩ := h2
  rw [Classical.not_imp, Bool.not_eq_true] at h1 h2
  have g : ∀ x (hx : x < ns.length) y, lt ns y x = ns[x].testBit y := fun x hx y => by rw [lt, List.getD_eq_getElem?_getD, List.getElem?_eq_getElem hx]; rfl
  rw [← g b hb, ← g d hd] at h1
  rw [← g b hb, ← g d hd] at h2
  have ha : a < n := lt_lt hv.2 h1.1
  have hc : c < n := lt_lt hv.2 h2.1
  have hb' : b < n := by omega
  have hd' : d < n := by omega
  have nb : ∀ x y, lt ns x y = true → x ≠ y := fun x y hxy => by
    rintro rfl
    by_cases hx : x < n
    · rw [okB_irr hok hx] at hxy; cases hxy
    · exact hx (lt_lt hv.2 hxy)
  have hq := h a b c d ha hb' hc hd' (by
    unfold qdD
    rw [decide_eq_true_eq]
    refine ⟨nb _ _ h1.1, ?_, ?_, ?_, ?_, nb _ _ h2.1⟩
    · rintro rfl; rw [h2.2] at h1; cases h1.1
    · rintro rfl
      have := okB_tr hok hb' ha h1.1 h2.1
      rw [h2.2] at this; cases this
    · rintro rfl
      have := okB_tr hok hd' hb' h2.1 h1.1
      rw [h1.2] at this; cases this
    · rintro rfl; rw [h1.2] at h1; cases h1.1)
  unfold twQ at hq
  rw [h1.1, h2.1, h1.2, h2.2] at hq
  cases hq
theorem sn_of_ch {n : Nat} {ns : List Nat} (hn : n ≤ 10) (hv : Vld n ns) (hok : okB n ns = true) (hc : ChN (dsN n ns)) : snY n ns = true := by
  have hl := hv.1
  have hb : ∀ s ∈ dsN n ns, s < 1024 := fun s hs => Nat.lt_of_lt_of_le (hv.2 s ((dsN_mem hv).1 hs)) (p2_10 hn)
  have hm : ∀ p, p < n → ns.getD p 0 ∈ dsN n ns := fun p hp => (dsN_mem hv).2 (by rw [List.getD_eq_getElem?_getD, List.getElem?_eq_getElem (by omega)]; exact List.getElem_mem _)
  have hge : ∀ p, p < n → (snT n ns n).getD p (0, 0) = snR n ns p := fun p hp => snT_get hp
  have htl := snT_len n ns n
  unfold snY
  rw [Bool.and_eq_true, decide_eq_true_eq, decide_eq_true_eq]
  constructor
  · refine snE_good (by omega) fun k hk => ?_
    rw [htl] at hk
    rw [hge k hk]
    have := chN_out hc (hm k hk) (p := k) (okB_irr hok hk)
    show ((cSm (ns.getD k 0) (dsN n ns) : Nat) : Int) ≤ ((cWo k (dsN n ns) : Nat) : Int) - 1
    omega
  · refine vld_ext (ofn_vld _ _) hv fun a b ha hb' => ?_
    rw [ofn_lt _ ha hb']
    unfold snB
    rw [hge a ha, hge b hb']
    rw [Bool.eq_iff_iff, decide_eq_true_eq]
    show ((cWo a (dsN n ns) : Nat) : Int) - 1 < ((cSm (ns.getD b 0) (dsN n ns) : Nat) : Int) ↔ _
    constructor
    · intro h
      cases hx : lt ns a b with
      | true => rfl
      | false => have := chN_out hc (hm b hb') (p := a) hx; omega
    · intro h
      have := chN_in hb hc (hm b hb') h
      omega
/-- An order of stretches has no such pairs. -/
theorem sn_no {l : List (Int × Int)} (hz : snE l = 0) {n : Nat} (hn : l.length = n) {a b c d : Nat} (ha : a < n) (hb : b < n) (hc : c < n) (hd : d < n) : twQ (ofn n (snB l)) a b c d = false := by
  obtain ⟨_, hall⟩ := snE_zero hz
  unfold twQ
  rw [ofn_lt _ ha hb, ofn_lt _ hc hd, ofn_lt _ ha hd, ofn_lt _ hc hb]
  unfold snB
  have h1 := hall b (by omega)
  have h2 := hall d (by omega)
  rw [Bool.eq_false_iff]
  simp only [ne_eq, Bool.and_eq_true, decide_eq_true_eq, Bool.not_eq_true', decide_eq_false_iff_not]
  omega
theorem qdY_iff {n : Nat} {q : Nat → Nat → Nat → Nat → Bool} : qdY n q = true ↔ ∃ k, k < n * n * n * n ∧ qdB n q k = true := by
  unfold qdY
  cases hf : qdF (qdB n q) (n * n * n * n) with
  | some k =>
    obtain ⟨h1, h2, _⟩ := qdF_all hf
    exact ⟨fun _ => ⟨k, h1, h2⟩, fun _ => rfl⟩
  | none =>
    refine ⟨fun h => (by cases h), fun ⟨k, h1, h2⟩ => ?_⟩
    have : ∀ {m : Nat}, qdF (qdB n q) m = none → ∀ x, x < m → qdB n q x = false := fun {m} => by
      induction m with
      | zero => exact fun _ x hx => by omega
      | succ m ih =>
        intro h x hx
        rw [qdF] at h
        cases hm : qdF (qdB n q) m with
        | some a => rw [hm] at h; cases h
        | none =>
          rw [hm] at h
          change (if qdB n q m = true then some m else none) = none at h
          by_cases hxm : x = m
          · subst hxm
            cases hq : qdB n q x with
            | false => rfl
            | true => rw [hq, if_pos rfl] at h; cases h
          · exact ih hm x (by omega)
    rw [this hf k h1] at h2; cases h2
/-- There are such four just if some list of four different points is such. -/
theorem qdY_ex {n : Nat} {q : Nat → Nat → Nat → Nat → Bool} : qdY n q = true ↔ ∃ a b c d, a < n ∧ b < n ∧ c < n ∧ d < n ∧ qdD a b c d = true ∧ q a b c d = true := by
  rw [qdY_iff]
  constructor
  · rintro ⟨k, hk, h⟩
    have h0 : 0 < n := by
      rcases Nat.eq_zero_or_pos n with h | h
      · subst h; simp at hk
      · exact h
    unfold qdB at h
    rw [Bool.and_eq_true] at h
    exact ⟨_, _, _, _, Nat.div_lt_of_lt_mul hk, Nat.mod_lt _ h0, Nat.mod_lt _ h0, Nat.mod_lt _ h0, h.1, h.2⟩
  · rintro ⟨a, b, c, d, ha, hb, hc, hd, h1, h2⟩
    have h0 : 0 < n := by omega
    have hk : ((a * n + b) * n + c) * n + d < n * n * n * n := by
      have e1 : a * n + b < n * n := by
        have : (a + 1) * n ≤ n * n := Nat.mul_le_mul_right n ha
        rw [Nat.add_mul] at this; omega
      have e2 : (a * n + b) * n + c < n * n * n := by
        have : (a * n + b + 1) * n ≤ n * n * n := Nat.mul_le_mul_right n e1
        rw [Nat.add_mul] at this; omega
      have : ((a * n + b) * n + c + 1) * n ≤ n * n * n * n := Nat.mul_le_mul_right n e2
      rw [Nat.add_mul] at this; omega
    refine ⟨_, hk, ?_⟩
    have m1 : ∀ x y, y < n → (x * n + y) % n = y := fun x y hy => by rw [Nat.mul_comm, Nat.mul_add_mod, Nat.mod_eq_of_lt hy]
    have m2 : ∀ x y, y < n → (x * n + y) / n = x := fun x y hy => by rw [Nat.mul_comm, Nat.mul_add_div h0, Nat.div_eq_of_lt hy, Nat.add_zero]
    have d1 := m2 ((a * n + b) * n + c) d hd
    have d2 := m2 (a * n + b) c hc
    have d3 := m2 a b hb
    unfold qdB
    rw [show (((a * n + b) * n + c) * n + d) / (n * n * n) = a by rw [← Nat.div_div_eq_div_mul, ← Nat.div_div_eq_div_mul, d1, d2, d3],
      show (((a * n + b) * n + c) * n + d) / (n * n) % n = b by rw [← Nat.div_div_eq_div_mul, d1, d2, m1 _ _ hb],
      show (((a * n + b) * n + c) * n + d) / n % n = c by rw [d1, m1 _ _ hc], m1 _ _ hd, h1, h2]
    rfl
theorem fishburn {n : Nat} {ns : List Nat} (hn : n ≤ 10) (hv : Vld n ns) (hok : okB n ns = true) : snY n ns = !qdY n (twQ ns) := by
  cases hy : qdY n (twQ ns) with
  | true =>
    obtain ⟨a, b, c, d, ha, hb, hc, hd, _, h2⟩ := qdY_ex.1 hy
    rw [Bool.not_true, Bool.eq_false_iff]
    intro h
    unfold snY at h
    rw [Bool.and_eq_true, decide_eq_true_eq, decide_eq_true_eq] at h
    have := sn_no h.1 (snT_len n ns n) ha hb hc hd
    rw [h.2, h2] at this; cases this
  | false =>
    refine sn_of_ch hn hv hok (ch_of hv hok fun a b c d ha hb hc hd h1 => ?_)
    cases hq : twQ ns a b c d with
    | false => rfl
    | true => rw [qdY_ex.2 ⟨a, b, c, d, ha, hb, hc, hd, h1, hq⟩] at hy; cases hy
end Go.Proofs.YtdkkalplgfhpdaaDoor
