import Derived.Test.YtbgecpjlopdkfaaDoorSsa
set_option linter.unusedSimpArgs false
set_option linter.unusedVariables false
set_option linter.unusedSectionVars false
set_option maxRecDepth 20000
namespace Go.Proofs.YtbgecpjlopdkfaaDoor
attribute [local irreducible] QOp aL aC qL
def snk (c : Int → Int → Int) : List Int → Int → List Int → List Int
  | [], x, B => x :: B
  | a :: R, x, B => if c x a < 0 then snk c R x (a :: B) else (a :: R).reverse ++ x :: B
theorem sink_snk (c : Int → Int → Int) : ∀ (R : List Int) (x : Int) (B : List Int), sink c R.length (R.reverse ++ x :: B) = snk c R x B
  | [], x, B => rfl
  | a :: R, x, B => by
    have e : (a :: R).reverse ++ x :: B = R.reverse ++ a :: x :: B := by simp
    have e1 : (R.reverse ++ a :: x :: B).getD (R.length + 1) 0 = x := by
      rw [List.getD_eq_getElem?_getD, List.getElem?_append_right (by simp), List.length_reverse, Nat.add_sub_cancel_left]; rfl
    have e2 : (R.reverse ++ a :: x :: B).getD R.length 0 = a := by
      rw [List.getD_eq_getElem?_getD, List.getElem?_append_right (by simp), List.length_reverse, Nat.sub_self]; rfl
    have e3 : ((R.reverse ++ a :: x :: B).set (R.length + 1) a).set R.length x = R.reverse ++ x :: a :: B := by
      rw [List.set_append_right _ _ (by simp), List.length_reverse, Nat.add_sub_cancel_left]
      show (R.reverse ++ a :: a :: B).set R.length x = _
      rw [List.set_append_right _ _ (by simp), List.length_reverse, Nat.sub_self]; rfl
    rw [e]
    show (if c ((R.reverse ++ a :: x :: B).getD (R.length + 1) 0) ((R.reverse ++ a :: x :: B).getD R.length 0) < 0 then sink c R.length (((R.reverse ++ a :: x :: B).set (R.length + 1) ((R.reverse ++ a :: x :: B).getD R.length 0)).set R.length ((R.reverse ++ a :: x :: B).getD (R.length + 1) 0)) else (R.reverse ++ a :: x :: B)) = if c x a < 0 then snk c R x (a :: B) else (a :: R).reverse ++ x :: B
    rw [e1, e2]
    by_cases h : c x a < 0
    · rw [if_pos h, if_pos h, e3]
      exact sink_snk c R x (a :: B)
    · rw [if_neg h, if_neg h, e]
structure OrdP (c : Int → Int → Int) (P : Int → Prop) : Prop where
  tot : ∀ x y, P x → P y → x ≠ y → c x y < 0 ∨ c y x < 0
  tr : ∀ x y z, P x → P y → P z → c x y < 0 → c y z < 0 → c x z < 0
theorem snk_srt {c : Int → Int → Int} {P : Int → Prop} (hc : OrdP c P) : ∀ (R : List Int) (x : Int) (S T : List Int), (∀ y ∈ R, P y) → P x → (∀ y ∈ S, P y) → (∀ y ∈ R, y ≠ x) → (R.reverse ++ S).Pairwise (fun a b => c a b < 0) → (∀ s ∈ S, c x s < 0) →
    ∃ M, snk c R x (S ++ T) = M ++ T ∧ M.Perm (x :: (R.reverse ++ S)) ∧ M.Pairwise (fun a b => c a b < 0)
  | [], x, S, T, _, _, _, _, hp, hx => ⟨x :: S, rfl, List.Perm.refl _, List.pairwise_cons.2 ⟨hx, hp⟩⟩
  | a :: R, x, S, T, hR, pX, hS, hne, hp, hx => by
    have e : (a :: R).reverse ++ S = R.reverse ++ a :: S := by simp
    by_cases h : c x a < 0
    · rw [e] at hp
      obtain ⟨M, m1, m2, m3⟩ := snk_srt hc R x (a :: S) T (fun y hy => hR y (List.mem_cons_of_mem _ hy)) pX
        (fun y hy => (List.mem_cons.1 hy).elim (fun q => q ▸ hR a List.mem_cons_self) (fun q => hS y q))
        (fun y hy => hne y (List.mem_cons_of_mem _ hy)) hp (fun s hs => (List.mem_cons.1 hs).elim (fun q => q ▸ h) (fun q => hx s q))
      refine ⟨M, ?_, by rw [e]; exact m2, m3⟩
      show (if c x a < 0 then snk c R x (a :: (S ++ T)) else _) = _
      rw [if_pos h]; exact m1
    · have ax : c a x < 0 := (hc.tot x a pX (hR a List.mem_cons_self) (fun q => hne a List.mem_cons_self q.symm)).resolve_left h
      refine ⟨(a :: R).reverse ++ x :: S, ?_, List.perm_middle, ?_⟩
      · show (if c x a < 0 then _ else (a :: R).reverse ++ x :: (S ++ T)) = _
        rw [if_neg h, List.append_assoc]; rfl
      · rw [List.pairwise_append] at hp ⊢
        refine ⟨hp.1, List.pairwise_cons.2 ⟨hx, hp.2.1⟩, fun b hb y hy => ?_⟩
        rcases List.mem_cons.1 hy with rfl | hy
        · have hb' : b ∈ a :: R := List.mem_reverse.1 hb
          rcases List.mem_cons.1 hb' with rfl | hbR
          · exact ax
          · have h1 := hp.1
            rw [List.reverse_cons, List.pairwise_append] at h1
            exact hc.tr b a y (hR b hb') (hR a List.mem_cons_self) pX (h1.2.2 b (List.mem_reverse.2 hbR) a (by simp)) ax
        · exact hp.2.2 b hb y hy
theorem insR_srt {c : Int → Int → Int} {P : Int → Prop} (hc : OrdP c P) : ∀ (B A : List Int), (A ++ B).Nodup → (∀ y ∈ A ++ B, P y) → A.Pairwise (fun a b => c a b < 0) → (insR c B.length A.length (A ++ B)).Perm (A ++ B) ∧ (insR c B.length A.length (A ++ B)).Pairwise (fun a b => c a b < 0)
  | [], A, _, _, hp => ⟨List.Perm.refl _, by show (A ++ []).Pairwise _; rw [List.append_nil]; exact hp⟩
  | x :: B, A, hn, hP, hp => by
    have hn1 := List.nodup_append.1 hn
    obtain ⟨M, m1, m2, m3⟩ := snk_srt hc A.reverse x [] B (fun y hy => hP y (List.mem_append_left _ (List.mem_reverse.1 hy))) (hP x (by simp)) (fun y hy => by cases hy)
      (fun y hy q => hn1.2.2 y (List.mem_reverse.1 hy) x (by simp) q) (by rw [List.reverse_reverse, List.append_nil]; exact hp) (fun s hs => by cases hs)
    have k := sink_snk c A.reverse x B
    rw [List.reverse_reverse, List.length_reverse] at k
    rw [List.nil_append] at m1
    rw [List.reverse_reverse, List.append_nil] at m2
    have hlen : M.length = A.length + 1 := by rw [m2.length_eq]; rfl
    have hmid : (M ++ B).Perm (A ++ x :: B) := (m2.append_right B).trans (List.perm_middle.symm)
    obtain ⟨r1, r2⟩ := insR_srt hc B M (hmid.nodup_iff.2 hn) (fun y hy => hP y (hmid.mem_iff.1 hy)) m3
    show (insR c B.length (A.length + 1) (sink c A.length (A ++ x :: B))).Perm _ ∧ (insR c B.length (A.length + 1) (sink c A.length (A ++ x :: B))).Pairwise _
    rw [k, m1, ← hlen]
    exact ⟨r1.trans hmid, r2⟩
theorem isF_srt {c : Int → Int → Int} {P : Int → Prop} (hc : OrdP c P) {l : List Int} (hn : l.Nodup) (hP : ∀ y ∈ l, P y) : (isF c l).Perm l ∧ (isF c l).Pairwise (fun a b => c a b < 0) := by
  cases l with
  | nil => exact ⟨List.Perm.refl _, List.Pairwise.nil⟩
  | cons a l => exact insR_srt hc l [a] hn hP (List.pairwise_singleton _ _)
/-! Pieces. -/
section
variable {R : Nat → Nat → Bool}
theorem cmp_clo {s b c : Nat} (hs : s < 1024) (hb : (cmpR R s).testBit b = true) (hc : s.testBit c = true) (hr : R b c = true) : (cmpR R s).testBit c = true :=
  cmpR_bit.2 ⟨bitS_lt hs hc, hc, .step (cmpR_bit.1 hb).2.2 hc hr⟩
theorem lowS_eq {p m : Nat} (hp : p < 1024) (hm : p.testBit m = true) (hl : ∀ k, k < m → p.testBit k = false) : lowkS p = m := by
  have h0 : 0 < p := by
    rcases Nat.eq_zero_or_pos p with e | e
    · rw [e, Nat.zero_testBit] at hm; cases hm
    · exact e
  obtain ⟨_, _, h1, h2⟩ := low_atS hp h0
  rcases Nat.lt_trichotomy (lowkS p) m with h | h | h
  · rw [hl _ h] at h1; cases h1
  · exact h
  · rw [h2 _ h] at hm; cases hm
theorem cmp_low {s : Nat} (hs : s < 1024) (h0 : s ≠ 0) : lowkS (cmpR R s) = lowkS s :=
  lowS_eq (cmpR_lt R s) (cmpR_low hs h0) fun k hk => by
    cases h : (cmpR R s).testBit k
    · rfl
    · have := cmpR_in h
      rw [(low_atS hs (by omega)).2.2.2 k hk] at this; cases this
theorem cmp_idem {s : Nat} (hs : s < 1024) (h0 : s ≠ 0) : cmpR R (cmpR R s) = cmpR R s := by
  apply Nat.eq_of_testBit_eq
  intro i
  cases hc : (cmpR R s).testBit i
  · cases h : (cmpR R (cmpR R s)).testBit i
    · rfl
    · rw [cmpR_in h] at hc; cases hc
  · have h := (cmpR_bit.1 hc).2.2
    refine cmpR_bit.2 ⟨bitS_lt (cmpR_lt R s) hc, hc, ?_⟩
    rw [cmp_low hs h0]
    clear hc
    induction h with
    | refl => exact .refl
    | step h hc hr ih =>
      rename_i b c
      exact .step ih (cmpR_bit.2 ⟨bitS_lt hs hc, hc, .step h hc hr⟩) hr
theorem pcsF_s (f s : Nat) (h0 : s ≠ 0) : pcsF R (f + 1) s = cmpR R s :: pcsF R f (ndiff s (cmpR R s)) := by
  conv => lhs; unfold pcsF
  rw [if_neg h0]
theorem pcsF_z (f : Nat) : pcsF R f 0 = [] := by cases f <;> (unfold pcsF; rfl)
theorem ndiff_cmp {s : Nat} (hs : s < 1024) (h0 : s ≠ 0) : ndiff s (cmpR R s) < s := ndiff_less (s := s) (c := cmpR R s) (fun i hi => cmpR_in hi) (cmpR_low hs h0)
theorem pcs_ex : ∀ (f s : Nat), s < 1024 → s < f → ∀ i, s.testBit i = true → ∃ p ∈ pcsF R f s, p.testBit i = true
  | 0, s, _, h, _, _ => by omega
  | f + 1, s, hs, hf, i, hi => by
    have h0 : s ≠ 0 := fun e => by rw [e, Nat.zero_testBit] at hi; cases hi
    rw [pcsF_s f s h0]
    have hl := ndiff_cmp (R := R) hs h0
    cases hc : (cmpR R s).testBit i
    · obtain ⟨p, hp, h⟩ := pcs_ex f (ndiff s (cmpR R s)) (by omega) (by omega) i (by rw [testBit_ndiff, hi, hc]; rfl)
      exact ⟨p, List.mem_cons_of_mem _ hp, h⟩
    · exact ⟨_, List.mem_cons_self, hc⟩
theorem pcs_sub {f s : Nat} (hs : s < 1024) {p : Nat} (hp : p ∈ pcsF R f s) {i : Nat} (hi : p.testBit i = true) : s.testBit i = true := (pcs_in R f s hs p hp).2.2 i hi
theorem pcs_rel : ∀ (f s : Nat), s < 1024 → (∀ x y, s.testBit x = true → s.testBit y = true → R x y = R y x) → ∀ p ∈ pcsF R f s, ∀ x y, s.testBit y = true → R x y = true → p.testBit x = true → p.testBit y = true
  | 0, s, _, _, p, hp, _, _, _, _, _ => by unfold pcsF at hp; cases hp
  | f + 1, s, hs, hsy, p, hp, x, y, hy, hr, hx => by
    by_cases h0 : s = 0
    · subst h0; rw [pcsF_z] at hp; cases hp
    rw [pcsF_s f s h0] at hp
    have hl := ndiff_cmp (R := R) hs h0
    have sx := pcs_sub (R := R) (f := f + 1) hs (by rw [pcsF_s f s h0]; exact hp) hx
    rcases List.mem_cons.1 hp with rfl | hp
    · exact cmp_clo hs hx hy hr
    · have hxn := pcs_sub (by omega) hp hx
      rw [testBit_ndiff, Bool.and_eq_true, Bool.not_eq_true'] at hxn
      refine pcs_rel f (ndiff s (cmpR R s)) (by omega) (fun a b ha hb => ?_) p hp x y ?_ hr hx
      · rw [testBit_ndiff, Bool.and_eq_true] at ha hb
        exact hsy a b ha.1 hb.1
      · rw [testBit_ndiff, hy]
        cases hc : (cmpR R s).testBit y
        · rfl
        · rw [cmp_clo hs hc sx (by rw [hsy y x hy sx]; exact hr)] at hxn
          exact absurd hxn.2 (by decide)
theorem pcs_conn : ∀ (f s : Nat), s < 1024 → ∀ p ∈ pcsF R f s, cmpR R p = p
  | 0, s, _, p, hp => by unfold pcsF at hp; cases hp
  | f + 1, s, hs, p, hp => by
    by_cases h0 : s = 0
    · subst h0; rw [pcsF_z] at hp; cases hp
    rw [pcsF_s f s h0] at hp
    have hl := ndiff_cmp (R := R) hs h0
    rcases List.mem_cons.1 hp with rfl | hp
    · exact cmp_idem hs h0
    · exact pcs_conn f _ (by omega) p hp
/-- The pieces rise by their least points, and have none in common. -/
theorem pcs_ord : ∀ (f s : Nat), s < 1024 → (pcsF R f s).Pairwise fun p q => lowkS p < lowkS q ∧ ∀ i, p.testBit i = true → q.testBit i = true → False
  | 0, s, _ => by unfold pcsF; exact List.Pairwise.nil
  | f + 1, s, hs => by
    by_cases h0 : s = 0
    · subst h0; rw [pcsF_z]; exact List.Pairwise.nil
    rw [pcsF_s f s h0]
    have hl := ndiff_cmp (R := R) hs h0
    refine List.pairwise_cons.2 ⟨fun q hq => ⟨?_, fun i hi hj => ?_⟩, pcs_ord f _ (by omega)⟩
    · have hq1 := pcs_in R f _ (show ndiff s (cmpR R s) < 1024 by omega) q hq
      have hq2 := (low_atS (show q < 1024 by omega) (by omega)).2.2.1
      have hq3 := hq1.2.2 _ hq2
      rw [testBit_ndiff, Bool.and_eq_true, Bool.not_eq_true'] at hq3
      rw [cmp_low hs h0]
      rcases Nat.lt_trichotomy (lowkS s) (lowkS q) with h | h | h
      · exact h
      · rw [← h, cmpR_low hs h0] at hq3
        exact absurd hq3.2 (by decide)
      · rw [(low_atS hs (by omega)).2.2.2 _ h] at hq3
        exact absurd hq3.1 (by decide)
    · have hq3 := pcs_sub (show ndiff s (cmpR R s) < 1024 by omega) hq hj
      rw [testBit_ndiff, hi] at hq3
      simp at hq3
theorem pcs_nd (f s : Nat) (hs : s < 1024) : (pcsF R f s).Nodup := by
  refine (pcs_ord (R := R) f s hs).imp ?_
  rintro a b ⟨h, _⟩ e
  rw [e] at h; omega
/-- One piece just if all hang together. -/
theorem pcs_one {f s : Nat} (hs : s < 1024) (h0 : s ≠ 0) (hf : s < f) : (pcsF R f s).length = 1 ↔ cmpR R s = s := by
  rcases f with _ | f
  · omega
  rw [pcsF_s f s h0, List.length_cons]
  have hl := ndiff_cmp (R := R) hs h0
  constructor
  · intro h
    have h1 : pcsF R f (ndiff s (cmpR R s)) = [] := List.length_eq_zero_iff.1 (by omega)
    apply Nat.eq_of_testBit_eq
    intro i
    cases hi : s.testBit i
    · cases h : (cmpR R s).testBit i
      · rfl
      · rw [cmpR_in h] at hi; cases hi
    · cases h : (cmpR R s).testBit i
      · obtain ⟨p, hp, _⟩ := pcs_ex (R := R) f (ndiff s (cmpR R s)) (by omega) (by omega) i (by rw [testBit_ndiff, hi, h]; rfl)
        rw [h1] at hp; cases hp
      · rfl
  · intro h
    have : ndiff s (cmpR R s) = 0 := by rw [h]; exact ndiff_zero.2 fun i hi => hi
    rw [this, pcsF_z]; rfl
theorem pcs_some {f s : Nat} (hs : s < 1024) (h0 : s ≠ 0) (hf : s < f) : 1 ≤ (pcsF R f s).length := by
  rcases f with _ | f
  · omega
  rw [pcsF_s f s h0, List.length_cons]; omega
/-- What falls apart has two pieces. -/
theorem sep_two {f s : Nat} (hs : s < 1024) (h0 : s ≠ 0) (hf : s < f) (hsy : ∀ x y, s.testBit x = true → s.testBit y = true → R x y = R y x) (h : SepB R (mbs s)) : 2 ≤ (pcsF R f s).length := by
  have h1 := pcs_some (R := R) hs h0 hf
  rcases Nat.lt_or_ge 1 (pcsF R f s).length with h2 | h2
  · exact h2
  exfalso
  have he := (pcs_one hs h0 hf).1 (Nat.le_antisymm h2 h1)
  obtain ⟨A, ⟨x, hx, ax⟩, ⟨y, hy, ay⟩, hA⟩ := h
  have low := (low_atS hs (by omega)).2.2.1
  have all : ∀ {i}, RCh R s (lowkS s) i → s.testBit i = true ∧ A i = A (lowkS s) := by
    intro i h
    induction h with
    | refl => exact ⟨low, rfl⟩
    | step h hc hr ih =>
      rename_i b c
      refine ⟨hc, ?_⟩
      rw [← ih.2]
      cases ab : A b <;> cases ac : A c <;> try rfl
      · rw [hsy b c ih.1 hc, hA c ((mbs_mem hs).2 hc) b ((mbs_mem hs).2 ih.1) ac ab] at hr; cases hr
      · rw [hA b ((mbs_mem hs).2 ih.1) c ((mbs_mem hs).2 hc) ab ac] at hr; cases hr
  have get : ∀ {i}, i ∈ mbs s → A i = A (lowkS s) := fun hi => by
    have := (mbs_mem hs).1 hi
    rw [← he] at this
    exact (all (cmpR_bit.1 this).2.2).2
  rw [get hx] at ax
  rw [get hy, ax] at ay
  cases ay
end
end Go.Proofs.YtbgecpjlopdkfaaDoor
