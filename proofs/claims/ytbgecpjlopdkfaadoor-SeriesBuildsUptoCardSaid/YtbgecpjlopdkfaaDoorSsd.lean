import Derived.Test.YtbgecpjlopdkfaaDoorSsc
set_option linter.unusedSimpArgs false
set_option linter.unusedVariables false
set_option linter.unusedSectionVars false
set_option maxRecDepth 20000
namespace Go.Proofs.YtbgecpjlopdkfaaDoor
attribute [local irreducible] QOp aL aC qL
def coR (ns : List Nat) (a b : Nat) : Bool := !abvS ns a b
theorem coR_symm (ns : List Nat) (a b : Nat) : coR ns a b = coR ns b a := by unfold coR; rw [abv_symm]
section
variable {n : Nat} {ns : List Nat}
theorem lt_asy (hok : okB n ns = true) {a b : Nat} (ha : a < n) (hb : b < n) (h : lt ns a b = true) : lt ns b a = false := by
  cases h2 : lt ns b a
  · rfl
  · have := okB_tr hok ha hb h2 h
    rw [okB_irr hok ha] at this; cases this
theorem lt_tr (hok : okB n ns = true) {a b c : Nat} (hb : b < n) (hc : c < n) (h1 : lt ns a b = true) (h2 : lt ns b c = true) : lt ns a c = true := okB_tr hok hc hb h2 h1
/-- Who hang together, apart from all of y, are on one side of y. -/
theorem side_eq (hok : okB n ns = true) {p y : Nat} (hp : ∀ i, p.testBit i = true → i < n) (hp0 : p < 1024) (h0 : p ≠ 0) (hy : y < n) (hc : cmpR (coR ns) p = p) (hall : ∀ a, p.testBit a = true → abvS ns a y = true) {a : Nat} (ha : p.testBit a = true) : lt ns a y = lt ns (lowkS p) y := by
  have low := (low_atS hp0 (by omega)).2.2.1
  have h1 : RCh (coR ns) p (lowkS p) a := (cmpR_bit.1 (by rw [hc]; exact ha)).2.2
  clear ha
  have : p.testBit a = true ∧ lt ns a y = lt ns (lowkS p) y := by
    induction h1 with
    | refl => exact ⟨low, rfl⟩
    | step h hcb hr ih =>
      rename_i b c
      refine ⟨hcb, ?_⟩
      rw [← ih.2]
      have bn := hp b ih.1
      have cn := hp c hcb
      have hb := hall b ih.1
      have hcy := hall c hcb
      unfold coR abvS at hr
      rw [Bool.not_eq_true', Bool.or_eq_false_iff] at hr
      unfold abvS at hb hcy
      rw [Bool.or_eq_true] at hb hcy
      rcases hb with hb | hb <;> rcases hcy with hcy | hcy
      · rw [hb, hcy]
      · rw [lt_tr hok hy cn hb hcy] at hr; cases hr.1
      · rw [lt_tr hok hy bn hcy hb] at hr; cases hr.2
      · rw [lt_asy hok hy bn hb, lt_asy hok hy cn hcy]
  exact this.2
theorem side_two (hok : okB n ns = true) {p q : Nat} (hp : ∀ i, p.testBit i = true → i < n) (hq : ∀ i, q.testBit i = true → i < n) (hp0 : p < 1024) (hq0 : q < 1024) (p0 : p ≠ 0) (q0 : q ≠ 0) (hcp : cmpR (coR ns) p = p) (hcq : cmpR (coR ns) q = q)
    (hall : ∀ a b, p.testBit a = true → q.testBit b = true → abvS ns a b = true) {a b : Nat} (ha : p.testBit a = true) (hb : q.testBit b = true) : lt ns a b = lt ns (lowkS p) (lowkS q) := by
  have lowp := (low_atS hp0 (by omega)).2.2.1
  rw [side_eq hok hp hp0 p0 (hq b hb) hcp (fun a ha => hall a b ha hb) ha]
  have lowq := (low_atS hq0 (by omega)).2.2.1
  have e := side_eq hok hq hq0 q0 (hp _ lowp) hcq (fun b hb => by rw [abv_symm]; exact hall _ b lowp hb) hb
  have c1 := hall _ b lowp hb
  have c2 := hall _ _ lowp lowq
  unfold abvS at c1 c2
  have bn := hq b hb
  have ln := hq _ lowq
  have pn := hp _ lowp
  cases e1 : lt ns b (lowkS p)
  · rw [e1] at e c1
    rw [Bool.or_false] at c1
    rw [← e, Bool.or_false] at c2
    rw [c1, c2]
  · rw [e1] at e
    rw [lt_asy hok bn pn e1, lt_asy hok ln pn e.symm]
theorem firstM {p : Nat} (hp : p < 1024) (h0 : p ≠ 0) : p.testBit ((mbs p).getD 0 0) = true := by
  have low := (low_atS hp (by omega)).2.2.1
  have := (mbs_mem hp).2 low
  exact (mbsS_mem hp (List.length_pos_of_mem this)).1
/-- The pieces of those that are neither above nor below, lower ones first. -/
theorem coF_ord (hok : okB n ns = true) {s : Nat} (hs : s < 1024) (hsn : ∀ i, s.testBit i = true → i < n) : (coF ns s).Perm (pcsF (coR ns) 1024 s) ∧ (coF ns s).Pairwise fun p q => ∀ a b, p.testBit a = true → q.testBit b = true → lt ns a b = true := by
  have sub := fun {p} (hp : p ∈ pcsF (coR ns) 1024 s) => pcs_in (coR ns) 1024 s hs p hp
  have disj : ∀ {p q}, p ∈ pcsF (coR ns) 1024 s → q ∈ pcsF (coR ns) 1024 s → p ≠ q → ∀ a b, p.testBit a = true → q.testBit b = true → abvS ns a b = true := by
    intro p q hp hq hne a b ha hb
    cases h : abvS ns a b
    · exfalso
      have hb2 := pcs_rel (R := coR ns) 1024 s hs (fun x y _ _ => coR_symm ns x y) p hp a b ((sub hq).2.2 b hb) (by unfold coR; rw [h]; rfl) ha
      have hord := pcs_ord (R := coR ns) 1024 s hs
      rcases List.pairwise_iff_getElem.1 hord with hord
      obtain ⟨i, hi, e1⟩ := List.getElem_of_mem hp
      obtain ⟨j, hj, e2⟩ := List.getElem_of_mem hq
      rcases Nat.lt_trichotomy i j with h | h | h
      · have := (hord i j hi hj h).2 b
        rw [e1, e2] at this
        exact this hb2 hb
      · subst h; exact hne (e1.symm.trans e2)
      · have := (hord j i hj hi h).2 b
        rw [e1, e2] at this
        exact this hb hb2
    · rfl
  have two : ∀ {p q}, p ∈ pcsF (coR ns) 1024 s → q ∈ pcsF (coR ns) 1024 s → p ≠ q → ∀ a b, p.testBit a = true → q.testBit b = true → lt ns a b = lt ns ((mbs p).getD 0 0) ((mbs q).getD 0 0) := by
    intro p q hp hq hne a b ha hb
    have sp := sub hp
    have sq := sub hq
    have gen := fun {a b} (ha : p.testBit a = true) (hb : q.testBit b = true) => side_two hok (p := p) (q := q) (fun i hi => hsn i (sp.2.2 i hi)) (fun i hi => hsn i (sq.2.2 i hi)) (by omega) (by omega) sp.2.1 sq.2.1 (pcs_conn 1024 s hs p hp) (pcs_conn 1024 s hs q hq) (disj hp hq hne) ha hb
    rw [gen ha hb, gen (firstM (by omega) sp.2.1) (firstM (by omega) sq.2.1)]
  have hc : OrdP (c3 ns) (fun x => ∃ p ∈ pcsF (coR ns) 1024 s, x = (p : Int)) := by
    constructor
    · rintro x y ⟨p, hp, rfl⟩ ⟨q, hq, rfl⟩ hne
      have hne : p ≠ q := fun e => hne (by rw [e])
      have := disj hp hq hne _ _ (firstM (by have := sub hp; omega) (sub hp).2.1) (firstM (by have := sub hq; omega) (sub hq).2.1)
      unfold abvS at this
      rw [Bool.or_eq_true] at this
      unfold c3
      rw [Int.toNat_natCast, Int.toNat_natCast]
      rcases this with h | h
      · left; rw [if_pos h]; decide
      · right; rw [if_pos h]; decide
    · rintro x y z ⟨p, hp, rfl⟩ ⟨q, hq, rfl⟩ ⟨r, hr, rfl⟩ h1 h2
      unfold c3 at h1 h2 ⊢
      rw [Int.toNat_natCast, Int.toNat_natCast] at h1 h2 ⊢
      have e1 : lt ns ((mbs p).getD 0 0) ((mbs q).getD 0 0) = true := by
        apply Classical.byContradiction
        intro h; rw [if_neg h] at h1; omega
      have e2 : lt ns ((mbs q).getD 0 0) ((mbs r).getD 0 0) = true := by
        apply Classical.byContradiction
        intro h; rw [if_neg h] at h2; omega
      have fq := hsn _ ((sub hq).2.2 _ (firstM (by have := sub hq; omega) (sub hq).2.1))
      have fr := hsn _ ((sub hr).2.2 _ (firstM (by have := sub hr; omega) (sub hr).2.1))
      rw [if_pos (lt_tr hok fq fr e1 e2)]; decide
  have hnd := pcs_nd (R := coR ns) 1024 s hs
  have hndI : (nl (pcsF (coR ns) 1024 s)).Nodup := by
    unfold nl
    have hnd' : (pcsF (coR ns) 1024 s).Pairwise (fun a b => a ≠ b) := hnd
    have hI : (pcsF (coR ns) 1024 s).Pairwise (fun (a b : Nat) => (a : Int) ≠ (b : Int)) := List.Pairwise.imp (R := fun (a b : Nat) => a ≠ b) (fun {a b : Nat} h (e : (a : Int) = (b : Int)) => absurd (show a = b by omega) h) hnd'
    exact List.pairwise_map.2 hI
  obtain ⟨r1, r2⟩ := isF_srt hc hndI (fun y hy => by
    unfold nl at hy
    obtain ⟨p, hp, e⟩ := List.mem_map.1 hy
    exact ⟨p, hp, e.symm⟩)
  have hcoF : coF ns s = (isF (c3 ns) (nl (pcsF (coR ns) 1024 s))).map Int.toNat := rfl
  have hperm : (coF ns s).Perm (pcsF (coR ns) 1024 s) := by
    rw [hcoF]
    have := r1.map Int.toNat
    unfold nl at this
    rw [List.map_map] at this
    have e : (Int.toNat ∘ fun (n : Nat) => (n : Int)) = id := by funext x; rfl
    rw [e, List.map_id] at this
    exact this
  refine ⟨hperm, ?_⟩
  have hnd2 : (coF ns s).Nodup := hperm.nodup_iff.2 hnd
  have h3 : (coF ns s).Pairwise fun p q => lt ns ((mbs p).getD 0 0) ((mbs q).getD 0 0) = true := by
    rw [hcoF]
    refine List.pairwise_map.2 (r2.imp fun {a b} h => ?_)
    unfold c3 at h
    apply Classical.byContradiction
    intro h'; rw [if_neg h'] at h; omega
  refine List.pairwise_iff_getElem.2 fun i j hi hj hij a b ha hb => ?_
  have m1 := hperm.mem_iff.1 (List.getElem_mem hi)
  have m2 := hperm.mem_iff.1 (List.getElem_mem hj)
  have hne : (coF ns s)[i] ≠ (coF ns s)[j] := List.pairwise_iff_getElem.1 hnd2 i j hi hj hij
  rw [two m1 m2 hne a b ha hb]
  exact List.pairwise_iff_getElem.1 h3 i j hi hj hij
end
end Go.Proofs.YtbgecpjlopdkfaaDoor
