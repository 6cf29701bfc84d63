import Derived.Test.YtbgecpjlopdkfaaDoorSsd
set_option linter.unusedSimpArgs false
set_option linter.unusedVariables false
set_option linter.unusedSectionVars false
set_option maxRecDepth 20000
namespace Go.Proofs.YtbgecpjlopdkfaaDoor
attribute [local irreducible] QOp aL aC qL
theorem Two.mem {Q : Nat → Tr → Prop} {ps : List Nat} {l : List Tr} (h : Two Q ps l) : ∀ t ∈ l, ∃ p ∈ ps, Q p t := by
  induction h with
  | nil => intro t ht; cases ht
  | cons hq _ ih =>
    intro t ht
    rcases List.mem_cons.1 ht with rfl | ht
    · exact ⟨_, List.mem_cons_self, hq⟩
    · obtain ⟨p, hp, h⟩ := ih t ht
      exact ⟨p, List.mem_cons_of_mem _ hp, h⟩
theorem getDN {l : List Nat} {i : Nat} (h : i < l.length) : l.getD i 0 = l[i] := by rw [List.getD_eq_getElem?_getD, List.getElem?_eq_getElem h]; rfl
theorem getDT {l : List Tr} {i : Nat} (h : i < l.length) : l.getD i t000 = l[i] := by rw [List.getD_eq_getElem?_getD, List.getElem?_eq_getElem h]; rfl
section
variable {n : Nat} {ns : List Nat}
theorem ptsF_perm (hok : okB n ns = true) {s : Nat} (hs : s < 1024) (hsn : ∀ i, s.testBit i = true → i < n) :
    ((pcsF (abvS ns) 1024 s).length = 1 ∧ ptsF ns s = coF ns s ∧ (ptsF ns s).Perm (pcsF (coR ns) 1024 s)) ∨ ((pcsF (abvS ns) 1024 s).length ≠ 1 ∧ ptsF ns s = pcsF (abvS ns) 1024 s) := by
  unfold ptsF
  by_cases h : (pcsF (abvS ns) 1024 s).length = 1
  · rw [if_pos h]; exact .inl ⟨h, rfl, (coF_ord hok hs hsn).1⟩
  · rw [if_neg h]; exact .inr ⟨h, rfl⟩
/-- In either way they are parts, apart from one another, and hold all. -/
theorem ptsF_in (hok : okB n ns = true) {s : Nat} (hs : s < 1024) (hsn : ∀ i, s.testBit i = true → i < n) :
    (∀ p ∈ ptsF ns s, p ≤ s ∧ p ≠ 0 ∧ ∀ i, p.testBit i = true → s.testBit i = true) ∧ (ptsF ns s).Pairwise DsO ∧ (∀ i, s.testBit i = true → ∃ p ∈ ptsF ns s, p.testBit i = true) ∧ (2 ≤ (ptsF ns s).length → ∀ p ∈ ptsF ns s, p < s) := by
  have gen := fun (R : Nat → Nat → Bool) => And.intro (pcs_in R 1024 s hs) (And.intro ((pcs_ord (R := R) 1024 s hs).imp (S := DsO) fun {a b} h => h.2) (And.intro (pcs_ex (R := R) 1024 s hs hs) (pcs_less R 1024 s hs)))
  rcases ptsF_perm hok hs hsn with ⟨_, e, hp⟩ | ⟨_, e⟩
  · obtain ⟨g1, g2, g3, g4⟩ := gen (coR ns)
    refine ⟨fun p hm => g1 p (hp.mem_iff.1 hm), ?_, fun i hi => ?_, fun h2 p hm => g4 (by rw [← hp.length_eq]; exact h2) p (hp.mem_iff.1 hm)⟩
    · exact (List.Perm.pairwise_iff (fun {a b} (h : DsO a b) i hi hj => h i hj hi) hp).2 g2
    · obtain ⟨p, hm, h⟩ := g3 i hi
      exact ⟨p, hp.mem_iff.2 hm, h⟩
  · rw [e]; exact gen (abvS ns)
theorem zq_ne (hok : okB n ns = true) {a b c d : Nat} (ha : a < n) (hb : b < n) (hc : c < n) (hd : d < n) (h : zqQ ns a b c d = true) : qdD a b c d = true := by
  have i1 := okB_irr hok ha
  have i2 := okB_irr hok hb
  unfold zqQ apZ at h
  simp only [Bool.and_eq_true, decide_eq_true_eq, Bool.not_eq_true'] at h
  obtain ⟨⟨⟨⟨⟨h1, h2⟩, h3⟩, h4⟩, h5⟩, h6⟩ := h
  unfold qdD
  rw [decide_eq_true_eq]
  refine ⟨h4.1, fun e => ?_, h5.1, fun e => ?_, fun e => ?_, h6.1⟩
  · subst e; rw [i1] at h1; cases h1
  · subst e; rw [i2] at h2; cases h2
  · subst e; rw [i2] at h3; cases h3
theorem sp_good (hok : okB n ns = true) (hn : n ≤ 10) : ∀ (f s : Nat) (t : Tr), s < 1024 → (∀ i, s.testBit i = true → i < n) → spF ns f s = some t → SpG ns s t
  | 0, s, t, _, _, h => by unfold spF at h; cases h
  | f + 1, s, t, hs, hsn, h => by
    unfold spF at h
    by_cases h1 : (mbs s).length = 1
    · rw [if_pos h1] at h
      obtain rfl := Option.some.inj h
      obtain ⟨x, hx⟩ : ∃ x, mbs s = [x] := by
        match mbs s, h1 with
        | [x], _ => exact ⟨x, rfl⟩
      have hm : ∀ i, s.testBit i = true ↔ i = x := fun i => by rw [← mbs_mem hs, hx, List.mem_singleton]
      rw [hx]
      have ep : (Tr.mk 1 (([x].getD 0 0 : Nat) : Int) []).pts = [(x : Int)] := by simp [Tr.pts]
      refine ⟨?_, ?_, ?_, ?_, ?_, ?_, ?_, ?_⟩
      · rw [hx]; rfl
      · intro e; change (1 : Int) = 3 at e; omega
      · rw [ep]; simp
      · intro y
        rw [ep, List.mem_singleton]
        constructor
        · intro e; exact ⟨x, (hm x).2 rfl, e⟩
        · rintro ⟨i, hi, e⟩; rw [(hm i).1 hi] at e; exact e
      · unfold Tr.frm kfrm; simp
      · unfold Tr.can kcan; rfl
      · rw [ep]; unfold Tr.cnt kcnt; simp
      · intro f hf a b ha hb
        rw [(hm a).1 ha, (hm b).1 hb, okB_irr hok (hsn x ((hm x).2 rfl))]
        cases f with
        | zero => rfl
        | succ f => unfold tls; rfl
    · rw [if_neg h1] at h
      by_cases h2 : (ptsF ns s).length < 2
      · rw [if_pos h2] at h; cases h
      rw [if_neg h2] at h
      rcases hl : spL (spF ns f) (ptsF ns s) with _ | l
      · rw [hl] at h; cases h
      rw [hl] at h
      obtain rfl := Option.some.inj h
      obtain ⟨pin, pdj, pex, plt⟩ := ptsF_in hok hs hsn
      have hT : Two (SpG ns) (ptsF ns s) l := spL_two hl fun p hp t ht => sp_good hok hn f p t (by have := pin p hp; omega) (fun i hi => hsn i ((pin p hp).2.2 i hi)) ht
      have hlen := hT.len
      have hmem : ∀ x, x ∈ kpts l ↔ InS s x := fun x => by
        rw [two_mem hT]
        constructor
        · rintro ⟨p, hp, i, hi, e⟩; exact ⟨i, (pin p hp).2.2 i hi, e⟩
        · rintro ⟨i, hi, e⟩
          obtain ⟨p, hp, hpi⟩ := pex i hi
          exact ⟨p, hp, i, hpi, e⟩
      have hcnt := two_cnt hT
      have hnd := two_nd hT pdj
      generalize hK : (if (pcsF (abvS ns) 1024 s).length = 1 then (3 : Int) else 2) = K at *
      have hK23 : K = 3 ∨ K = 2 := by rw [← hK]; split <;> simp
      have ep : (Tr.mk K 0 l).pts = kpts l := by unfold Tr.pts; rw [if_neg (by omega)]
      have own : ∀ {i : Nat} {x : Nat}, i < l.length → ((x : Int) ∈ (l.getD i t000).pts ↔ ((ptsF ns s).getD i 0).testBit x = true) := fun {i x} hi => by
        rw [(hT.get (by omega)).mem]
        constructor
        · rintro ⟨j, hj, e⟩
          rw [show x = j by omega]; exact hj
        · exact fun h => ⟨x, h, rfl⟩
      have uniq : ∀ {i j : Nat} {x : Nat}, i < l.length → j < l.length → j ≠ i → ((ptsF ns s).getD i 0).testBit x = true → ((ptsF ns s).getD j 0).testBit x = true → False := fun {i j x} hi hj hne h1 h2 => by
        rw [getDN (by omega)] at h1 h2
        rcases Nat.lt_trichotomy i j with h | h | h
        · exact List.pairwise_iff_getElem.1 pdj i j (by omega) (by omega) h x h1 h2
        · exact hne h.symm
        · exact List.pairwise_iff_getElem.1 pdj j i (by omega) (by omega) h x h2 h1
      have kxe : ∀ {i : Nat} {x : Nat}, i < l.length → ((ptsF ns s).getD i 0).testBit x = true → kx l x l.length = i := fun {i x} hi hx =>
        kx_eq ((own hi).2 hx) hi fun j hj hne hm => uniq hi hj hne hx ((own hj).1 hm)
      have find : ∀ {x : Nat}, s.testBit x = true → ∃ i, i < l.length ∧ ((ptsF ns s).getD i 0).testBit x = true := fun {x} hx => by
        obtain ⟨p, hp, h⟩ := pex x hx
        obtain ⟨i, hi, e⟩ := List.getElem_of_mem hp
        exact ⟨i, by omega, by rw [getDN hi, e]; exact h⟩
      refine ⟨?_, ?_, ?_, ?_, ?_, ?_, ?_, ?_⟩
      · rw [if_neg h1]; exact hK.symm
      · intro e
        change K = 3 at e
        rcases ptsF_perm hok hs hsn with ⟨e1, e2, e3⟩ | ⟨e1, _⟩
        · have := e3.length_eq
          show 2 ≤ (pcsF (coR ns) 1024 s).length
          omega
        · rw [if_neg e1] at hK; omega
      · rw [ep]; exact hnd
      · intro x; rw [ep]; exact hmem x
      · unfold Tr.frm
        rw [if_neg (by omega), if_neg (by omega)]
        exact two_frm hT
      · unfold Tr.can
        rcases ptsF_perm hok hs hsn with ⟨e1, e2, e3⟩ | ⟨e1, e2⟩
        · rw [if_pos e1] at hK
          refine two_can hT (fun p hp => ⟨by have := pin p hp; omega, (pin p hp).2.1, fun t ht _ e => ?_⟩) (fun e => by omega)
          have c1 := ht.co (by omega)
          have c2 := (pcs_one (R := coR ns) (f := 1024) (s := p) (by have := pin p hp; omega) (pin p hp).2.1 (by have := pin p hp; omega)).2 (pcs_conn 1024 s hs p (e3.mem_iff.1 hp))
          change 2 ≤ (pcsF (coR ns) 1024 p).length at c1
          omega
        · rw [if_neg e1] at hK
          rw [e2] at hT
          refine two_can hT (fun p hp => ?_) (fun _ => ⟨pcs_ord 1024 s hs, fun p _ => by omega⟩)
          have hpi := pcs_in (abvS ns) 1024 s hs p hp
          refine ⟨by omega, hpi.2.1, fun t ht _ e => ?_⟩
          have c2 := (pcs_one (R := abvS ns) (f := 1024) (s := p) (by omega) hpi.2.1 (by omega)).2 (pcs_conn 1024 s hs p hp)
          have c1 := ht.kd
          rw [if_pos c2, e] at c1
          split at c1 <;> omega
      · rw [ep]; unfold Tr.cnt; omega
      · intro g hg a b ha hb
        rcases g with _ | g
        · unfold Tr.dep at hg; omega
        obtain ⟨i, hi, pa⟩ := find ha
        obtain ⟨j, hj, pb⟩ := find hb
        unfold tls
        rw [kxe hi pa, kxe hj pb]
        by_cases hij : i = j
        · subst hij
          rw [if_pos (.inr rfl), decide_eq_true (show (0 : Int) ≤ (i : Int) by omega), Int.toNat_natCast, Bool.true_and]
          have hd : (l.getD i t000).dep ≤ g := by
            have := dep_kid (l := l) (o := i) hi
            unfold Tr.dep at hg
            rw [getDT hi]; omega
          exact (hT.get (by omega)).less g hd a b pa pb
        · rw [if_neg (by omega)]
          rw [getDN (by omega)] at pa pb
          rcases ptsF_perm hok hs hsn with ⟨e1, e2, e3⟩ | ⟨e1, e2⟩
          · rw [if_pos e1] at hK
            subst hK
            have ord := (coF_ord hok hs hsn).2
            rw [← e2] at ord
            rw [decide_eq_true (show (3 : Int) = 3 from rfl), Bool.true_and]
            rcases Nat.lt_or_gt_of_ne hij with h | h
            · rw [List.pairwise_iff_getElem.1 ord i j (by omega) (by omega) h a b pa pb]
              exact decide_eq_true (by omega)
            · have := List.pairwise_iff_getElem.1 ord j i (by omega) (by omega) h b a pb pa
              rw [lt_asy hok (hsn b hb) (hsn a ha) this]
              exact decide_eq_false (by omega)
          · rw [if_neg e1] at hK
            subst hK
            rw [show decide ((2 : Int) = 3) = false from rfl, Bool.false_and]
            have hpm : (ptsF ns s)[i] ∈ pcsF (abvS ns) 1024 s := by rw [← e2]; exact List.getElem_mem _
            cases hlt : lt ns a b
            · rfl
            · exfalso
              have := pcs_rel (R := abvS ns) 1024 s hs (fun x y _ _ => abv_symm ns x y) _ hpm a b hb (by unfold abvS; rw [hlt]; rfl) pa
              rw [← getDN (by omega)] at this pb
              exact uniq hj hi (fun e => hij (by omega)) pb this
/-- Without a zig there is a term. -/
theorem sp_some (hok : okB n ns = true) (hn : n ≤ 10) : ∀ (f s : Nat), s < 1024 → s ≠ 0 → s < f → (∀ i, s.testBit i = true → i < n) → (∀ a b c d, s.testBit a = true → s.testBit b = true → s.testBit c = true → s.testBit d = true → zqQ ns a b c d = false) → ∃ t, spF ns f s = some t
  | 0, s, _, _, h, _, _ => by omega
  | f + 1, s, hs, h0, hf, hsn, hz => by
    unfold spF
    by_cases h1 : (mbs s).length = 1
    · rw [if_pos h1]; exact ⟨_, rfl⟩
    rw [if_neg h1]
    have low := (mbs_mem hs).2 (low_atS hs (by omega)).2.2.1
    have h2 : 2 ≤ (mbs s).length := by have := List.length_pos_of_mem low; omega
    have hin : ∀ x ∈ mbs s, x < n := fun x hx => hsn x ((mbs_mem hs).1 hx)
    have hnd : (mbs s).Nodup := List.nodup_range.filter _
    have hsep := sep_all (mbs s) (abvS ns) hnd h2 (fun x _ y _ => abv_symm ns x y) (fun ⟨y, x, v, w, h⟩ => by
      obtain ⟨a, ha, b, hb, c, hc, d, hd, hq⟩ := row4_zig hok hin h
      rw [hz a b c d ((mbs_mem hs).1 ha) ((mbs_mem hs).1 hb) ((mbs_mem hs).1 hc) ((mbs_mem hs).1 hd)] at hq; cases hq)
    have hp2 : 2 ≤ (ptsF ns s).length := by
      rcases ptsF_perm hok hs hsn with ⟨e1, e2, e3⟩ | ⟨e1, e2⟩
      · rcases hsep with hsep | hsep
        · have := sep_two (R := abvS ns) (f := 1024) hs h0 hs (fun x y _ _ => abv_symm ns x y) hsep
          omega
        · have := sep_two (R := coR ns) (f := 1024) hs h0 hs (fun x y _ _ => coR_symm ns x y) hsep
          rw [e3.length_eq]; exact this
      · have := pcs_some (R := abvS ns) (f := 1024) hs h0 hs
        rw [e2]; omega
    rw [if_neg (by omega)]
    obtain ⟨pin, _, _, plt⟩ := ptsF_in hok hs hsn
    obtain ⟨l, hl⟩ := spL_some (g := spF ns f) (ps := ptsF ns s) fun p hp => sp_some hok hn f p (by have := pin p hp; omega) (pin p hp).2.1 (by have := plt hp2 p hp; omega) (fun i hi => hsn i ((pin p hp).2.2 i hi))
      (fun a b c d ha hb hc hd => hz a b c d ((pin p hp).2.2 a ha) ((pin p hp).2.2 b hb) ((pin p hp).2.2 c hc) ((pin p hp).2.2 d hd))
    rw [hl]; exact ⟨_, rfl⟩
/-- With a zig there is none. -/
theorem sp_none (hok : okB n ns = true) {a b c d : Nat} (hq : zqQ ns a b c d = true) : ∀ (f s : Nat), s < 1024 → (∀ i, s.testBit i = true → i < n) → s.testBit a = true → s.testBit b = true → s.testBit c = true → s.testBit d = true → spF ns f s = none
  | 0, s, _, _, _, _, _, _ => by unfold spF; rfl
  | f + 1, s, hs, hsn, ha, hb, hc, hd => by
    have hq' := hq
    unfold zqQ apZ at hq'
    simp only [Bool.and_eq_true, decide_eq_true_eq, Bool.not_eq_true'] at hq'
    obtain ⟨⟨⟨⟨⟨z1, z2⟩, z3⟩, z4⟩, z5⟩, z6⟩ := hq'
    unfold spF
    rw [if_neg (fun h1 => z4.1 (by
      have e1 := (mbs_mem hs).2 ha
      have e2 := (mbs_mem hs).2 hb
      match hm : mbs s, h1 with
      | [x], _ =>
        rw [hm, List.mem_singleton] at e1 e2
        rw [e1, e2]))]
    by_cases h2 : (ptsF ns s).length < 2
    · rw [if_pos h2]
    rw [if_neg h2]
    obtain ⟨pin, pdj, pex, plt⟩ := ptsF_in hok hs hsn
    obtain ⟨p, hp, pa⟩ := pex a ha
    have all : p.testBit b = true ∧ p.testBit c = true ∧ p.testBit d = true := by
      rcases ptsF_perm hok hs hsn with ⟨e1, e2, e3⟩ | ⟨e1, e2⟩
      · have st := fun {x y} => pcs_rel (R := coR ns) 1024 s hs (fun x y _ _ => coR_symm ns x y) p (e3.mem_iff.1 hp) x y
        have pb := st hb (by unfold coR abvS; rw [z4.2.1, z4.2.2]; rfl) pa
        have pd := st hd (by unfold coR abvS; rw [z5.2.1, z5.2.2]; rfl) pa
        have pc := st hc (by unfold coR abvS; rw [z6.2.1, z6.2.2]; rfl) pd
        exact ⟨pb, pc, pd⟩
      · have st := fun {x y} => pcs_rel (R := abvS ns) 1024 s hs (fun x y _ _ => abv_symm ns x y) p (by rw [← e2]; exact hp) x y
        have pc := st hc (by unfold abvS; rw [z1]; rfl) pa
        have pb := st hb (by unfold abvS; rw [z2, Bool.or_true]) pc
        have pd := st hd (by unfold abvS; rw [z3]; rfl) pb
        exact ⟨pb, pc, pd⟩
    rw [spL_none (sp_none hok hq f p (by have := pin p hp; omega) (fun i hi => hsn i ((pin p hp).2.2 i hi)) pa all.1 all.2.1 all.2.2) hp]
    rfl
theorem full_bit {n i : Nat} : (2 ^ n - 1).testBit i = true ↔ i < n := by rw [Nat.testBit_two_pow_sub_one, decide_eq_true_eq]
/-- VALDES, TARJAN, LAWLER. -/
theorem sp_iff (hok : okB n ns = true) (hn : n ≤ 10) : (spF ns 1025 (2 ^ n - 1)).isSome = (decide (0 < n) && !qdY n (zqQ ns)) := by
  have hp : 2 ^ n ≤ 1024 := Nat.pow_le_pow_right (n := 2) (by decide) hn
  have hpos := Nat.two_pow_pos n
  rcases Nat.eq_zero_or_pos n with h0 | h0
  · subst h0
    unfold spF
    rw [if_neg (by decide), if_pos (by
      unfold ptsF
      rw [show (2 ^ 0 - 1 : Nat) = 0 from rfl, pcsF_z, if_neg (by decide)]
      decide)]
    rfl
  rw [decide_eq_true h0, Bool.true_and]
  cases hy : qdY n (zqQ ns)
  · obtain ⟨t, ht⟩ := sp_some hok hn 1025 (2 ^ n - 1) (by omega) (by have : 2 ^ 1 ≤ 2 ^ n := Nat.pow_le_pow_right (by decide) h0; omega) (by omega) (fun i hi => full_bit.1 hi) (fun a b c d ha hb hc hd => by
      cases hq : zqQ ns a b c d
      · rfl
      · rw [qdY_ex.2 ⟨a, b, c, d, full_bit.1 ha, full_bit.1 hb, full_bit.1 hc, full_bit.1 hd, zq_ne hok (full_bit.1 ha) (full_bit.1 hb) (full_bit.1 hc) (full_bit.1 hd) hq, hq⟩] at hy; cases hy)
    rw [ht]; rfl
  · obtain ⟨a, b, c, d, ha, hb, hc, hd, _, hq⟩ := qdY_ex.1 hy
    rw [sp_none hok hq 1025 (2 ^ n - 1) (by omega) (fun i hi => full_bit.1 hi) (full_bit.2 ha) (full_bit.2 hb) (full_bit.2 hc) (full_bit.2 hd)]
    rfl
end
end Go.Proofs.YtbgecpjlopdkfaaDoor
