import Derived.Test.YtfjpgficpdbelaaHg
set_option linter.unusedSimpArgs false
set_option linter.unusedVariables false
set_option linter.unusedSectionVars false
set_option maxRecDepth 20000
namespace Go.Proofs.Ytfjpgficpdbelaa
attribute [local irreducible] QOp aL aC qL
/-! An order in which one point is below another one, too. -/
def alB (ns : List Nat) (a b x y : Nat) : Bool := lt ns x y || ((decide (x = a) || lt ns x a) && (decide (b = y) || lt ns b y))
def alN (n : Nat) (ns : List Nat) (a b : Nat) : List Nat := ofn n (alB ns a b)
/-- Is neither below the other one. -/
def frB (ns : List Nat) (a b : Nat) : Bool := !lt ns a b && !lt ns b a
structure Od (n : Nat) (ns : List Nat) : Prop where
  vld : Vld n ns
  ok : okB n ns = true
theorem Od.irr {n : Nat} {ns : List Nat} (h : Od n ns) (a : Nat) : lt ns a a = false := by
  by_cases ha : a < n
  · exact okB_irr h.ok ha
  · cases hq : lt ns a a with
    | false => rfl
    | true => exact absurd (lt_lt h.vld.2 hq) ha
theorem Od.tr {n : Nat} {ns : List Nat} (h : Od n ns) {a b c : Nat} (h1 : lt ns a b = true) (h2 : lt ns b c = true) : lt ns a c = true :=
  okB_tr h.ok (lt_lt' h.vld.1 h2) (lt_lt' h.vld.1 h1) h2 h1
theorem od_of {n : Nat} {ns : List Nat} (hv : Vld n ns) (hi : ∀ a, a < n → lt ns a a = false) (ht : ∀ a b c, a < n → b < n → c < n → lt ns a b = true → lt ns b c = true → lt ns a c = true) : Od n ns := by
  refine ⟨hv, okB_all hv.2 fun i hii => ⟨fun j hj k hk => ?_, hi i hii⟩⟩
  unfold trip
  cases h1 : lt ns j k with
  | false => rfl
  | true =>
    cases h2 : lt ns k i with
    | false => rfl
    | true => rw [ht j k i hj hk hii h1 h2]; rfl
theorem frB_iff {ns : List Nat} {a b : Nat} : frB ns a b = true ↔ lt ns a b = false ∧ lt ns b a = false := by
  unfold frB; rw [Bool.and_eq_true, Bool.not_eq_true', Bool.not_eq_true']
theorem frB_sym (ns : List Nat) (a b : Nat) : frB ns a b = frB ns b a := by unfold frB; rw [Bool.and_comm]
theorem alB_iff {ns : List Nat} {a b x y : Nat} : alB ns a b x y = true ↔ lt ns x y = true ∨ ((x = a ∨ lt ns x a = true) ∧ (b = y ∨ lt ns b y = true)) := by
  unfold alB
  rw [Bool.or_eq_true, Bool.and_eq_true, Bool.or_eq_true, Bool.or_eq_true, decide_eq_true_eq, decide_eq_true_eq]
theorem al_lt {n : Nat} {ns : List Nat} {a b x y : Nat} (hx : x < n) (hy : y < n) : lt (alN n ns a b) x y = alB ns a b x y := ofn_lt _ hx hy
theorem al_up {n : Nat} {ns : List Nat} (h : Od n ns) {a b x y : Nat} (hl : lt ns x y = true) : lt (alN n ns a b) x y = true := by
  rw [al_lt (lt_lt h.vld.2 hl) (lt_lt' h.vld.1 hl)]; exact alB_iff.2 (.inl hl)
theorem al_ab {n : Nat} {ns : List Nat} {a b : Nat} (ha : a < n) (hb : b < n) : lt (alN n ns a b) a b = true := by
  rw [al_lt ha hb]; exact alB_iff.2 (.inr ⟨.inl rfl, .inl rfl⟩)
theorem al_not {n : Nat} {ns : List Nat} (h : Od n ns) {a b : Nat} (hab : a ≠ b) (hf : lt ns b a = false) {x y : Nat} (h1 : x = a ∨ lt ns x a = true) (h2 : b = y ∨ lt ns b y = true) : ¬ (x = y) ∧ lt ns y x = false ∧ ¬ (y = a ∨ lt ns y a = true) := by
  have key : ∀ y', (b = y' ∨ lt ns b y' = true) → ¬ (y' = a ∨ lt ns y' a = true) := by
    rintro y' (rfl | h3) (rfl | h4)
    · exact hab rfl
    · rw [hf] at h4; cases h4
    · rw [hf] at h3; cases h3
    · have := h.tr h3 h4; rw [hf] at this; cases this
  refine ⟨fun e => key y h2 (by rw [← e]; exact h1), ?_, key y h2⟩
  cases hq : lt ns y x with
  | false => rfl
  | true =>
    refine absurd ?_ (key y h2)
    rcases h1 with rfl | h1
    · exact .inr hq
    · exact .inr (h.tr hq h1)
theorem al_od {n : Nat} {ns : List Nat} (h : Od n ns) {a b : Nat} (hab : a ≠ b) (hf : lt ns b a = false) : Od n (alN n ns a b) := by
  refine od_of (ofn_vld n _) (fun x hx => ?_) fun x y z hx hy hz h1 h2 => ?_
  · rw [al_lt hx hx]
    cases hq : alB ns a b x x with
    | false => rfl
    | true =>
      rcases alB_iff.1 hq with h1 | ⟨h1, h2⟩
      · rw [h.irr] at h1; cases h1
      · exact absurd rfl (al_not h hab hf h1 h2).1
  · rw [al_lt hx hy] at h1
    rw [al_lt hy hz] at h2
    rw [al_lt hx hz]
    refine alB_iff.2 ?_
    rcases alB_iff.1 h1 with h1 | ⟨h1, h3⟩ <;> rcases alB_iff.1 h2 with h2 | ⟨h2, h4⟩
    · exact .inl (h.tr h1 h2)
    · refine .inr ⟨?_, h4⟩
      rcases h2 with rfl | h2
      · exact .inr (by assumption)
      · exact .inr (h.tr (by assumption) h2)
    · refine .inr ⟨h1, ?_⟩
      rcases h3 with rfl | h3
      · exact .inr h2
      · exact .inr (h.tr h3 h2)
    · exact absurd h2 (al_not h hab hf h1 h3).2.2
theorem pf_mem {n : Nat} {ns : List Nat} (h : Od n ns) {a b : Nat} : (a, b) ∈ prsTo n (pf n ns false) n ↔ lt ns a b = true := by
  rw [prs_mem]
  unfold pf
  constructor
  · rintro ⟨_, _, h3⟩; simpa using h3
  · intro hl; exact ⟨lt_lt h.vld.2 hl, lt_lt' h.vld.1 hl, by simpa using hl⟩
theorem pf_in {n : Nat} {ns : List Nat} (h : Od n ns) {a b : Nat} (ha : a < n) (hb : b < n) : ∀ p ∈ prsTo n (pf n ns false) n ++ [(a, b)], p.1 < n ∧ p.2 < n := by
  intro p hp
  rcases List.mem_append.1 hp with hp | hp
  · have := prs_mem.1 hp; exact ⟨this.1, this.2.1⟩
  · rw [List.mem_singleton] at hp; subst hp; exact ⟨ha, hb⟩
/-- The program's order with a pair more is the reference's. -/
theorem al_clos {n : Nat} {ns : List Nat} (h : Od n ns) {a b : Nat} (ha : a < n) (hb : b < n) (hab : a ≠ b) (hf : lt ns b a = false) : clos n (prsTo n (pf n ns false) n ++ [(a, b)]) = alN n ns a b := by
  have hl := pf_in h ha hb
  have hA := al_od h hab hf
  have hup : ∀ x y, Reach (prsTo n (pf n ns false) n ++ [(a, b)]) x y → lt (alN n ns a b) x y = true := by
    have hone : ∀ x y, (x, y) ∈ prsTo n (pf n ns false) n ++ [(a, b)] → lt (alN n ns a b) x y = true := by
      intro x y hp
      rcases List.mem_append.1 hp with hp | hp
      · exact al_up h ((pf_mem h).1 hp)
      · rw [List.mem_singleton] at hp; cases hp; exact al_ab ha hb
    intro x y hr
    induction hr with
    | one h3 => exact hone _ _ h3
    | more _ h3 ih => exact hA.tr ih (hone _ _ h3)
  refine vld_ext (clos_vld hl) hA.vld fun x y hx hy => ?_
  rw [Bool.eq_iff_iff, clos_iff hl hy]
  refine ⟨hup x y, fun hq => ?_⟩
  have hin : ∀ {x y}, lt ns x y = true → Reach (prsTo n (pf n ns false) n ++ [(a, b)]) x y := fun hq => .one (List.mem_append_left _ ((pf_mem h).2 hq))
  rw [al_lt hx hy] at hq
  rcases alB_iff.1 hq with hq | ⟨h1, h2⟩
  · exact hin hq
  · have hm : Reach (prsTo n (pf n ns false) n ++ [(a, b)]) a b := .one (by simp)
    have h3 : Reach (prsTo n (pf n ns false) n ++ [(a, b)]) x b := by
      rcases h1 with rfl | h1
      · exact hm
      · exact (hin h1).trans hm
    rcases h2 with rfl | h2
    · exact h3
    · exact h3.trans (hin h2)
theorem al_irr {n : Nat} {ns : List Nat} (h : Od n ns) {a b : Nat} (ha : a < n) (hb : b < n) (hab : a ≠ b) (hf : lt ns b a = false) : irr n (clos n (prsTo n (pf n ns false) n ++ [(a, b)])) = true := by
  rw [al_clos h ha hb hab hf]
  unfold irr
  rw [List.all_eq_true]
  intro x _
  rw [(al_od h hab hf).irr]; rfl
/-! The rows: those in which one is ahead, and those in which the other one is. -/
theorem mayO_al {n : Nat} {ns : List Nat} (h : Od n ns) {a b : Nat} (ha : a < n) (hb : b < n) (hab : a ≠ b) (hf : lt ns b a = false) : rest n (mayO (alN n ns a b)) 0 = rest n (fun s p => mayO ns s p && !(decide (p = b) && !s.testBit a)) 0 := by
  have hl := pf_in h ha hb
  have h1 := rows_eq hl
  rw [al_irr h ha hb hab hf, if_pos rfl, al_clos h ha hb hab hf] at h1
  rw [h1]
  refine rest_congr (fun s p hp => ?_) 0
  rw [← mayB_prs h.vld s p]
  unfold mayB
  rw [List.all_append]
  simp only [List.all_cons, List.all_nil, Bool.and_true]
  by_cases e : p = b
  · subst e; cases s.testBit a <;> simp
  · rw [decide_eq_false (fun e2 => e e2.symm), decide_eq_false e]; simp
theorem sp_in {n : Nat} {may : Nat → Nat → Bool} {a b : Nat} : ∀ f s, s.testBit a = true → cnt n (fun s p => may s p && !(decide (p = b) && !s.testBit a)) f s = cnt n may f s
  | 0, _, _ => rfl
  | f + 1, s, hs => by
    refine sumTo_congr fun p hp => ?_
    rw [sp_in f _ (by rw [Nat.testBit_or, hs]; rfl)]
    simp only [hs, Bool.not_true, Bool.and_false, Bool.not_false, Bool.and_true]
theorem sp_cnt {n : Nat} {may : Nat → Nat → Bool} (hm : ∀ s p, may s p = true → s.testBit p = false) {a b : Nat} (ha : a < n) (hb : b < n) (hab : a ≠ b) : ∀ f s, s.testBit a = false → s.testBit b = false → mis n s = f →
    cnt n may f s = cnt n (fun s p => may s p && !(decide (p = b) && !s.testBit a)) f s + cnt n (fun s p => may s p && !(decide (p = a) && !s.testBit b)) f s
  | 0, s, h1, h2, h0 => by
    have := mis_zero.1 h0 a ha
    rw [h1] at this; cases this
  | f + 1, s, h1, h2, h0 => by
    show sumTo _ n = sumTo _ n + sumTo _ n
    rw [← sumTo_add]
    refine sumTo_congr fun p hp => ?_
    by_cases hq : may s p = true
    · have hsp := hm s p hq
      have hmis := mis_add hsp hp
      by_cases ea : p = a
      · subst ea
        rw [if_pos hq, if_pos (by simp [hq, hab]), if_neg (by simp [h2]), Nat.add_zero]
        rw [sp_in f _ (by rw [Nat.testBit_or, Nat.testBit_two_pow_self, Bool.or_true])]
      · by_cases eb : p = b
        · subst eb
          rw [if_pos hq, if_neg (by simp [h1]), if_pos (by simp [hq, ea]), Nat.zero_add]
          rw [sp_in f _ (by rw [Nat.testBit_or, Nat.testBit_two_pow_self, Bool.or_true])]
        · rw [if_pos hq, if_pos (by simp [hq, eb]), if_pos (by simp [hq, ea])]
          exact sp_cnt hm ha hb hab f _ (by rw [Nat.testBit_or, h1, Nat.testBit_two_pow, decide_eq_false ea]; rfl) (by rw [Nat.testBit_or, h2, Nat.testBit_two_pow, decide_eq_false eb]; rfl) (by omega)
    · rw [if_neg hq, if_neg (by simp [hq]), if_neg (by simp [hq])]
/-- How many rows an order has. -/
def rwN (n : Nat) (ns : List Nat) : Nat := rest n (mayO ns) 0
theorem rw_pos {n : Nat} {ns : List Nat} (h : Od n ns) : 1 ≤ rwN n ns := rest_pos h.vld h.ok 0
theorem rw_split {n : Nat} {ns : List Nat} (h : Od n ns) {a b : Nat} (ha : a < n) (hb : b < n) (hab : a ≠ b) (hf : frB ns a b = true) : rwN n ns = rwN n (alN n ns a b) + rwN n (alN n ns b a) := by
  obtain ⟨h1, h2⟩ := frB_iff.1 hf
  unfold rwN
  rw [mayO_al h ha hb hab h2, mayO_al h hb ha (Ne.symm hab) h1]
  exact sp_cnt (fun s p => mayO_not) ha hb hab _ 0 (Nat.zero_testBit a) (Nat.zero_testBit b) rfl
/-! What an order costs. -/
def frP (ns : List Nat) (a b : Nat) : Bool := decide (a < b) && frB ns a b
def frL (n : Nat) (ns : List Nat) : List (Nat × Nat) := prsTo n (frP ns) n
theorem frL_mem {n : Nat} {ns : List Nat} {p : Nat × Nat} : p ∈ frL n ns ↔ p.1 < n ∧ p.2 < n ∧ p.1 < p.2 ∧ frB ns p.1 p.2 = true := by
  unfold frL; rw [prs_mem]; unfold frP; rw [Bool.and_eq_true, decide_eq_true_eq]
theorem frL_len (n : Nat) (ns : List Nat) : (frL n ns).length ≤ n * n := prsTo_len n _ n
/-- A pair that is weighed: the two orders that may come. -/
structure Wg (n : Nat) (ns : List Nat) (a b : Nat) : Prop where
  ha : a < n
  hb : b < n
  hab : a ≠ b
  hf : frB ns a b = true
theorem Wg.swap {n : Nat} {ns : List Nat} {a b : Nat} (w : Wg n ns a b) : Wg n ns b a := ⟨w.hb, w.ha, Ne.symm w.hab, by rw [frB_sym]; exact w.hf⟩
theorem Wg.od {n : Nat} {ns : List Nat} {a b : Nat} (w : Wg n ns a b) (h : Od n ns) : Od n (alN n ns a b) := al_od h w.hab (frB_iff.1 w.hf).2
theorem Wg.rw_lt {n : Nat} {ns : List Nat} {a b : Nat} (w : Wg n ns a b) (h : Od n ns) : rwN n (alN n ns a b) < rwN n ns := by
  have h1 := rw_split h w.ha w.hb w.hab w.hf
  have h2 := rw_pos (w.swap.od h)
  omega
theorem frL_wg {n : Nat} {ns : List Nat} {p : Nat × Nat} (h : p ∈ frL n ns) : Wg n ns p.1 p.2 := by
  obtain ⟨h1, h2, h3, h4⟩ := frL_mem.1 h
  exact ⟨h1, h2, by omega, h4⟩
/-- The least of a list; of none 0. -/
def mnl : List Nat → Nat
  | [] => 0
  | x :: r => r.foldl min x
theorem foldl_min_le : ∀ (r : List Nat) (x : Nat), r.foldl min x ≤ x ∧ ∀ y ∈ r, r.foldl min x ≤ y
  | [], x => ⟨Nat.le_refl _, fun y hy => by cases hy⟩
  | z :: r, x => by
    obtain ⟨h1, h2⟩ := foldl_min_le r (min x z)
    refine ⟨Nat.le_trans h1 (Nat.min_le_left _ _), fun y hy => ?_⟩
    rcases List.mem_cons.1 hy with rfl | hy
    · exact Nat.le_trans h1 (Nat.min_le_right _ _)
    · exact h2 y hy
theorem foldl_min_mem : ∀ (r : List Nat) (x : Nat), r.foldl min x = x ∨ r.foldl min x ∈ r
  | [], x => .inl rfl
  | z :: r, x => by
    rw [List.foldl_cons]
    rcases foldl_min_mem r (min x z) with h | h
    · rw [h]
      rcases Nat.le_total x z with h2 | h2
      · exact .inl (Nat.min_eq_left h2)
      · exact .inr (by rw [Nat.min_eq_right h2]; exact .head _)
    · exact .inr (.tail _ h)
theorem mnl_le {l : List Nat} {x : Nat} (h : x ∈ l) : mnl l ≤ x := by
  cases l with
  | nil => cases h
  | cons z r =>
    rcases List.mem_cons.1 h with rfl | h
    · exact (foldl_min_le r x).1
    · exact (foldl_min_le r z).2 x h
theorem mnl_mem {l : List Nat} (h : l ≠ []) : mnl l ∈ l := by
  cases l with
  | nil => exact absurd rfl h
  | cons z r =>
    rcases foldl_min_mem r z with e | e
    · show r.foldl min z ∈ _; rw [e]; exact .head _
    · exact .tail _ e
theorem mnl_snoc (l : List Nat) (x : Nat) : mnl (l ++ [x]) = if l = [] ∨ x < mnl l then x else mnl l := by
  cases l with
  | nil => simp [mnl]
  | cons z r =>
    show (r ++ [x]).foldl min z = _
    rw [List.foldl_append]
    show min (r.foldl min z) x = _
    have e : mnl (z :: r) = r.foldl min z := rfl
    rw [e]
    by_cases h : x < r.foldl min z
    · rw [if_pos (.inr h)]; omega
    · rw [if_neg (by simp; omega)]; omega
def cst (n : Nat) : Nat → List Nat → Nat
  | 0, _ => 0
  | f + 1, ns => mnl ((frL n ns).map fun p => 1 + max (cst n f (alN n ns p.1 p.2)) (cst n f (alN n ns p.2 p.1)))
theorem cst_fuel {n : Nat} : ∀ (f : Nat) {ns : List Nat}, Od n ns → rwN n ns ≤ f → ∀ f', f ≤ f' → cst n f' ns = cst n f ns
  | 0, ns, h, h0, f', _ => by have := rw_pos h; omega
  | f + 1, ns, h, h0, 0, hf => by omega
  | f + 1, ns, h, h0, f' + 1, hf => by
    show mnl _ = mnl _
    congr 1
    refine List.map_congr_left fun p hp => ?_
    have w := frL_wg hp
    have h1 := w.rw_lt h
    have h2 := w.swap.rw_lt h
    rw [cst_fuel f (w.od h) (by omega) f' (by omega), cst_fuel f (w.swap.od h) (by omega) f' (by omega)]
/-- What an order costs. -/
def cost (n : Nat) (ns : List Nat) : Nat := cst n (rwN n ns) ns
/-- What it costs, if one begins with a pair. -/
def wgh (n : Nat) (ns : List Nat) (p : Nat × Nat) : Nat := 1 + max (cost n (alN n ns p.1 p.2)) (cost n (alN n ns p.2 p.1))
theorem cost_eq {n : Nat} {ns : List Nat} (h : Od n ns) : cost n ns = mnl ((frL n ns).map (wgh n ns)) := by
  have hp := rw_pos h
  unfold cost
  obtain ⟨f, hf⟩ : ∃ f, rwN n ns = f + 1 := ⟨rwN n ns - 1, by omega⟩
  rw [hf]
  show mnl _ = mnl _
  congr 1
  refine List.map_congr_left fun p hp => ?_
  have w := frL_wg hp
  have h1 := w.rw_lt h
  have h2 := w.swap.rw_lt h
  unfold wgh cost
  rw [cst_fuel _ (w.od h) (Nat.le_refl _) f (by omega), cst_fuel _ (w.swap.od h) (Nat.le_refl _) f (by omega)]
theorem cost_le {n : Nat} {ns : List Nat} (h : Od n ns) {p : Nat × Nat} (hp : p ∈ frL n ns) : cost n ns ≤ wgh n ns p := by
  rw [cost_eq h]; exact mnl_le (List.mem_map.2 ⟨p, hp, rfl⟩)
theorem cost_at {n : Nat} {ns : List Nat} (h : Od n ns) (hl : frL n ns ≠ []) : ∃ p ∈ frL n ns, cost n ns = wgh n ns p := by
  have h1 := mnl_mem (l := (frL n ns).map (wgh n ns)) (by simpa using hl)
  obtain ⟨p, hp, e⟩ := List.mem_map.1 h1
  exact ⟨p, hp, by rw [cost_eq h, e]⟩
theorem cost_nil {n : Nat} {ns : List Nat} (h : Od n ns) (hl : frL n ns = []) : cost n ns = 0 := by rw [cost_eq h, hl]; rfl
theorem cost_pos {n : Nat} {ns : List Nat} (h : Od n ns) (hl : frL n ns ≠ []) : 0 < cost n ns := by
  obtain ⟨p, _, e⟩ := cost_at h hl
  rw [e]; unfold wgh; omega
/-- Induction along what is weighed. -/
theorem od_ind {n : Nat} {M : List Nat → Prop} (step : ∀ ns, Od n ns → (∀ a b, Wg n ns a b → M (alN n ns a b)) → M ns) : ∀ ns, Od n ns → M ns := by
  have : ∀ f ns, Od n ns → rwN n ns ≤ f → M ns := by
    intro f
    induction f with
    | zero => intro ns h h0; have := rw_pos h; omega
    | succ f ih =>
      intro ns h h0
      refine step ns h fun a b w => ih _ (w.od h) ?_
      have := w.rw_lt h; omega
  exact fun ns h => this _ ns h (Nat.le_refl _)
/-! Of a line there is one row. -/
theorem sum_one {g : Nat → Nat} : ∀ {k : Nat}, (∀ i, i < k → g i ≤ 1) → (∀ i j, i < k → j < k → g i ≠ 0 → g j ≠ 0 → i = j) → sumTo g k ≤ 1
  | 0, _, _ => Nat.zero_le _
  | k + 1, h1, h2 => by
    have ih := sum_one (g := g) (k := k) (fun i hi => h1 i (by omega)) fun i j hi hj => h2 i j (by omega) (by omega)
    show sumTo g k + g k ≤ 1
    by_cases h0 : g k = 0
    · omega
    · have hz : sumTo g k = 0 := sumTo_zero fun i hi => by
        cases hq : g i with
        | zero => rfl
        | succ m => exact absurd (h2 i k (by omega) (by omega) (by omega) h0) (by omega)
      have := h1 k (by omega)
      omega
theorem line_pair {n : Nat} {ns : List Nat} (hl : frL n ns = []) {a b : Nat} (ha : a < n) (hb : b < n) (hab : a ≠ b) : lt ns a b = true ∨ lt ns b a = true := by
  have key : ∀ a b, a < n → b < n → a < b → lt ns a b = true ∨ lt ns b a = true := by
    intro a b ha hb hab
    cases h1 : lt ns a b with
    | true => exact .inl rfl
    | false =>
      cases h2 : lt ns b a with
      | true => exact .inr rfl
      | false =>
        have : (a, b) ∈ frL n ns := frL_mem.2 ⟨ha, hb, hab, frB_iff.2 ⟨h1, h2⟩⟩
        rw [hl] at this; cases this
  rcases Nat.lt_or_gt_of_ne hab with h | h
  · exact key a b ha hb h
  · exact (key b a hb ha h).symm
theorem line_may {n : Nat} {ns : List Nat} (hl : frL n ns = []) {s p q : Nat} (hp : p < n) (hq : q < n) (h1 : mayO ns s p = true) (h2 : mayO ns s q = true) : p = q := by
  by_cases e : p = q
  · exact e
  obtain ⟨h3, h4⟩ := mayO_iff.1 h1
  obtain ⟨h5, h6⟩ := mayO_iff.1 h2
  rcases line_pair hl hp hq e with h | h
  · have := h6 p h; rw [h3] at this; cases this
  · have := h4 q h; rw [h5] at this; cases this
theorem line_cnt {n : Nat} {ns : List Nat} (hl : frL n ns = []) : ∀ f s, cnt n (mayO ns) f s ≤ 1
  | 0, _ => Nat.le_refl 1
  | f + 1, s => by
    refine sum_one (fun p hp => ?_) fun p q hp hq h1 h2 => ?_
    · split
      · exact line_cnt hl f _
      · omega
    · have h3 : mayO ns s p = true := by
        cases hm : mayO ns s p with
        | true => rfl
        | false => rw [hm] at h1; exact absurd rfl h1
      have h4 : mayO ns s q = true := by
        cases hm : mayO ns s q with
        | true => rfl
        | false => rw [hm] at h2; exact absurd rfl h2
      exact line_may hl hp hq h3 h4
theorem line_one {n : Nat} {ns : List Nat} (h : Od n ns) (hl : frL n ns = []) : rwN n ns = 1 := by
  have h1 := line_cnt hl (mis n 0) 0
  have h2 := rw_pos h
  have : rwN n ns ≤ 1 := h1
  omega
/-- 2 to the power of what it costs is as many as there are rows. -/
theorem cost_rows {n : Nat} : ∀ ns, Od n ns → rwN n ns ≤ 2 ^ cost n ns := by
  refine od_ind fun ns h ih => ?_
  by_cases hl : frL n ns = []
  · have hz := cost_nil h hl
    rw [hz, line_one h hl]
    decide
  · obtain ⟨p, hp, e⟩ := cost_at h hl
    have w := frL_wg hp
    have h1 := rw_split h w.ha w.hb w.hab w.hf
    have h2 := ih _ _ w
    have h3 := ih _ _ w.swap
    rw [e]
    unfold wgh
    have h4 : 2 ^ cost n (alN n ns p.1 p.2) ≤ 2 ^ max (cost n (alN n ns p.1 p.2)) (cost n (alN n ns p.2 p.1)) := Nat.pow_le_pow_right (by decide) (Nat.le_max_left _ _)
    have h5 : 2 ^ cost n (alN n ns p.2 p.1) ≤ 2 ^ max (cost n (alN n ns p.1 p.2)) (cost n (alN n ns p.2 p.1)) := Nat.pow_le_pow_right (by decide) (Nat.le_max_right _ _)
    rw [Nat.add_comm 1, Nat.pow_succ]
    omega
/-! Told in so many. -/
def lnB (n : Nat) (ns : List Nat) : Bool := (frL n ns).isEmpty
def tlA (n : Nat) (t : List Nat → Bool) (ns : List Nat) (p : Nat × Nat) : Bool := t (alN n ns p.1 p.2) && t (alN n ns p.2 p.1)
def tld (n : Nat) : Nat → List Nat → Bool
  | 0, ns => lnB n ns
  | k + 1, ns => lnB n ns || (decide (rwN n ns ≤ 2 ^ (k + 1)) && (frL n ns).any (tlA n (tld n k) ns))
theorem lnB_iff {n : Nat} {ns : List Nat} : lnB n ns = true ↔ frL n ns = [] := List.isEmpty_iff
theorem tld_iff {n : Nat} : ∀ (k : Nat) {ns : List Nat}, Od n ns → (tld n k ns = true ↔ cost n ns ≤ k)
  | 0, ns, h => by
    show lnB n ns = true ↔ _
    rw [lnB_iff]
    constructor
    · intro hl; rw [cost_nil h hl]; exact Nat.le_refl 0
    · intro hc
      by_cases hl : frL n ns = []
      · exact hl
      · have := cost_pos h hl; omega
  | k + 1, ns, h => by
    have ih := fun p (hp : p ∈ frL n ns) => tld_iff k ((frL_wg hp).od h)
    have ih2 := fun p (hp : p ∈ frL n ns) => tld_iff k ((frL_wg hp).swap.od h)
    show (lnB n ns || _) = true ↔ _
    rw [Bool.or_eq_true, lnB_iff, Bool.and_eq_true, decide_eq_true_eq, List.any_eq_true]
    constructor
    · rintro (hl | ⟨_, p, hp, ht⟩)
      · rw [cost_nil h hl]; exact Nat.zero_le _
      · unfold tlA at ht
        rw [Bool.and_eq_true, ih p hp, ih2 p hp] at ht
        have := cost_le h hp
        unfold wgh at this
        omega
    · intro hc
      by_cases hl : frL n ns = []
      · exact .inl hl
      · refine .inr ⟨Nat.le_trans (cost_rows _ h) (Nat.pow_le_pow_right (by decide) hc), ?_⟩
        obtain ⟨p, hp, e⟩ := cost_at h hl
        refine ⟨p, hp, ?_⟩
        unfold tlA
        rw [Bool.and_eq_true, ih p hp, ih2 p hp]
        unfold wgh at e
        omega
/-- The first pair with which it comes out. -/
def wbst (n : Nat) (ns : List Nat) : Option (Nat × Nat) := (frL n ns).find? fun p => wgh n ns p == cost n ns
theorem wbst_none {n : Nat} {ns : List Nat} (h : Od n ns) : wbst n ns = none ↔ frL n ns = [] := by
  unfold wbst
  rw [List.find?_eq_none]
  constructor
  · intro hn
    refine Classical.byContradiction fun hl => ?_
    obtain ⟨p, hp, e⟩ := cost_at h hl
    exact hn p hp (by rw [e]; simp)
  · intro hl p hp; rw [hl] at hp; cases hp
theorem wbst_some {n : Nat} {ns : List Nat} {p : Nat × Nat} (hb : wbst n ns = some p) : p ∈ frL n ns ∧ wgh n ns p = cost n ns := by
  unfold wbst at hb
  exact ⟨List.mem_of_find?_eq_some hb, by simpa using List.find?_some hb⟩
theorem wbst_tld {n : Nat} {ns : List Nat} (h : Od n ns) (hc : 0 < cost n ns) : wbst n ns = (frL n ns).find? (tlA n (tld n (cost n ns - 1)) ns) := by
  unfold wbst
  have : ∀ l : List (Nat × Nat), (∀ p ∈ l, p ∈ frL n ns) → l.find? (fun p => wgh n ns p == cost n ns) = l.find? (tlA n (tld n (cost n ns - 1)) ns) := by
    intro l
    induction l with
    | nil => intro _; rfl
    | cons p r ih =>
      intro hl
      have hp := hl p (.head _)
      have e : (wgh n ns p == cost n ns) = tlA n (tld n (cost n ns - 1)) ns p := by
        have h1 := cost_le h hp
        unfold tlA
        rw [Bool.eq_iff_iff, Bool.and_eq_true, tld_iff _ ((frL_wg hp).od h), tld_iff _ ((frL_wg hp).swap.od h), beq_iff_eq]
        unfold wgh at h1 ⊢
        omega
      rw [List.find?_cons, List.find?_cons, e, ih fun q hq => hl q (.tail _ hq)]
  exact this _ fun _ hp => hp
/-! What is known more costs no more. -/
theorem al_mono {n : Nat} {ns ms : List Nat} (h : Od n ns) (g : Od n ms) (hs : ∀ x y, lt ns x y = true → lt ms x y = true) {a b : Nat} {x y : Nat} (hl : lt (alN n ns a b) x y = true) : lt (alN n ms a b) x y = true := by
  have hx := lt_lt (ofn_vld n (alB ns a b)).2 hl
  have hy := lt_lt' (ofn_vld n (alB ns a b)).1 hl
  rw [al_lt hx hy] at hl
  rw [al_lt hx hy]
  refine alB_iff.2 ?_
  rcases alB_iff.1 hl with h1 | ⟨h1, h2⟩
  · exact .inl (hs _ _ h1)
  · exact .inr ⟨h1.imp_right (hs _ _), h2.imp_right (hs _ _)⟩
theorem al_in {n : Nat} {ns ms : List Nat} (g : Od n ms) (hs : ∀ x y, lt ns x y = true → lt ms x y = true) {a b : Nat} (hab : lt ms a b = true) {x y : Nat} (hl : lt (alN n ns a b) x y = true) : lt ms x y = true := by
  have hx := lt_lt (ofn_vld n (alB ns a b)).2 hl
  have hy := lt_lt' (ofn_vld n (alB ns a b)).1 hl
  rw [al_lt hx hy] at hl
  rcases alB_iff.1 hl with h1 | ⟨h1, h2⟩
  · exact hs _ _ h1
  · have h3 : lt ms x b = true := by
      rcases h1 with rfl | h1
      · exact hab
      · exact g.tr (hs _ _ h1) hab
    rcases h2 with rfl | h2
    · exact h3
    · exact g.tr h3 (hs _ _ h2)
theorem cost_more {n : Nat} : ∀ ns, Od n ns → ∀ ms, Od n ms → (∀ x y, lt ns x y = true → lt ms x y = true) → cost n ms ≤ cost n ns := by
  refine od_ind fun ns h ih ms g hs => ?_
  by_cases hl : frL n ns = []
  · have hm : frL n ms = [] := by
      cases hq : frL n ms with
      | nil => rfl
      | cons p r =>
        have hp : p ∈ frL n ms := by rw [hq]; exact .head _
        obtain ⟨h1, h2, h3, h4⟩ := frL_mem.1 hp
        obtain ⟨h5, h6⟩ := frB_iff.1 h4
        rcases line_pair hl h1 h2 (by omega) with h7 | h7
        · have := hs _ _ h7; rw [h5] at this; cases this
        · have := hs _ _ h7; rw [h6] at this; cases this
    rw [cost_nil g hm]; exact Nat.zero_le _
  · obtain ⟨p, hp, e⟩ := cost_at h hl
    have w := frL_wg hp
    rw [e]
    cases h1 : lt ms p.1 p.2 with
    | true =>
      have := ih _ _ w ms g fun x y hxy => al_in g hs h1 hxy
      unfold wgh; omega
    | false =>
      cases h2 : lt ms p.2 p.1 with
      | true =>
        have := ih _ _ w.swap ms g fun x y hxy => al_in g hs h2 hxy
        unfold wgh; omega
      | false =>
        have hf : frB ms p.1 p.2 = true := frB_iff.2 ⟨h1, h2⟩
        obtain ⟨q1, q2, q3, _⟩ := frL_mem.1 hp
        have hpm : p ∈ frL n ms := frL_mem.2 ⟨q1, q2, q3, hf⟩
        have w2 := frL_wg hpm
        have h3 := cost_le g hpm
        have h4 := ih _ _ w _ (w2.od g) fun x y hxy => al_mono h g hs hxy
        have h5 := ih _ _ w.swap _ (w2.swap.od g) fun x y hxy => al_mono h g hs hxy
        unfold wgh at h3 ⊢
        omega
end Go.Proofs.Ytfjpgficpdbelaa
