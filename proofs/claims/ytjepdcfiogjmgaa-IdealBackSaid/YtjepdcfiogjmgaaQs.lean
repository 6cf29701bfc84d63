import Derived.Test.YtjepdcfiogjmgaaQq
set_option linter.unusedSimpArgs false
set_option linter.unusedVariables false
set_option maxRecDepth 20000
namespace Go.Proofs.Ytjepdcfiogjmgaa
attribute [local irreducible] QOp aL aC qL
set_option linter.unusedSectionVars false
def dnI (ns : List Nat) (k : Nat) : Nat := ns.getD k 0 ||| 2 ^ k
theorem dnI_bit (ns : List Nat) (k i : Nat) : (dnI ns k).testBit i = true ↔ lt ns i k = true ∨ i = k := by
  unfold dnI
  rw [Nat.testBit_or, Nat.testBit_two_pow, Bool.or_eq_true, decide_eq_true_eq, eq_comm (a := k)]
  exact Iff.rfl
section
variable {n : Nat} {ns : List Nat} (hv : Vld n ns) (hok : okB n ns = true)
include hv hok
theorem bitI {s : Nat} (hs : s < 2 ^ n) {i : Nat} (h : s.testBit i = true) : i < n := by
  rcases Nat.lt_or_ge i n with h1 | h1
  · exact h1
  · rw [Nat.testBit_lt_two_pow (Nat.lt_of_lt_of_le hs (Nat.pow_le_pow_right (n := 2) (by decide) h1))] at h; cases h
theorem dnI_lt {k : Nat} (hk : k < n) : dnI ns k < 2 ^ n := Nat.or_lt_two_pow (hv.get k) (Nat.pow_lt_pow_right (by decide) hk)
theorem ns_idl {k : Nat} (hk : k < n) : idl n ns (ns.getD k 0) = true := idl_iff.2 fun b _ hbk => sub_iff.2 fun i hi => by
  have hb : b < n := bitI hv hok (hv.get k) hbk
  exact okB_tr hok hk hb hbk hi
theorem dnI_idl {k : Nat} (hk : k < n) : idl n ns (dnI ns k) = true := idl_iff.2 fun b _ hbk => sub_iff.2 fun i hi => by
  rw [dnI_bit] at hbk ⊢
  rcases hbk with h | rfl
  · have hb : b < n := bitI hv hok (hv.get k) h
    exact .inl (okB_tr hok hk hb h hi)
  · exact .inl hi
theorem dnI_sub {k s : Nat} (hs : idl n ns s = true) (hk : k < n) : sub (dnI ns k) s = true ↔ s.testBit k = true := by
  constructor
  · intro h; exact sub_iff.1 h k ((dnI_bit ns k k).2 (.inr rfl))
  · intro h
    refine sub_iff.2 fun i hi => ?_
    rcases (dnI_bit ns k i).1 hi with h1 | rfl
    · exact sub_iff.1 (idl_iff.1 hs k hk h) i h1
    · exact h
theorem dnI_le {a b : Nat} (ha : a < n) (hb : b < n) : sub (dnI ns a) (dnI ns b) = true ↔ lt ns a b = true ∨ a = b := by
  rw [dnI_sub hv hok (dnI_idl hv hok hb) ha, dnI_bit]
theorem dnI_inj {a b : Nat} (ha : a < n) (hb : b < n) (h : dnI ns a = dnI ns b) : a = b := by
  rcases (dnI_le hv hok ha hb).1 (by rw [h]; exact sub_rfl _) with h1 | h1
  · rcases (dnI_le hv hok hb ha).1 (by rw [h]; exact sub_rfl _) with h2 | h2
    · have := okB_irr hok ha
      rw [okB_tr hok ha hb h2 h1] at this; cases this
    · exact h2.symm
  · exact h1
theorem id_dist {x y z : Nat} (hx : x < (idTo n ns (2 ^ n)).length) (hy : y < (idTo n ns (2 ^ n)).length) (hz : z < (idTo n ns (2 ^ n)).length) :
    ta (idM n ns) x (ta (idJ n ns) y z) = ta (idJ n ns) (ta (idM n ns) x y) (ta (idM n ns) x z) := by
  have hJ := id_StJ n ns
  obtain ⟨a1, a2⟩ := hJ.jn hy hz
  obtain ⟨b1, b2⟩ := hJ.mt hx hy
  obtain ⟨c1, c2⟩ := hJ.mt hx hz
  obtain ⟨d1, d2⟩ := hJ.mt hx a1
  obtain ⟨e1, e2⟩ := hJ.jn b1 c1
  unfold idM idJ
  rw [tbT_ta _ hy hz, tbT_ta _ hx hy, tbT_ta _ hx hz, tbT_ta _ hx a1, tbT_ta _ b1 c1]
  refine hJ.one _ _ d1 e1 ?_
  rw [d2, e2, a2, b2, c2]
  exact Nat.and_or_distrib_left _ _ _
theorem id_le {x y : Nat} (hx : x < (idTo n ns (2 ^ n)).length) (hy : y < (idTo n ns (2 ^ n)).length) : ta (idM n ns) x y = x ↔ sub ((idTo n ns (2 ^ n)).getD x 0) ((idTo n ns (2 ^ n)).getD y 0) = true := by
  unfold idM
  rw [tbT_ta _ hx hy]
  exact (id_StJ n ns).below hx hy
variable (hm : (idTo n ns (2 ^ n)).length ≤ 40)
include hm
/-- The ideal of one point is irreducible. -/
theorem dn_irr {k x : Nat} (hk : k < n) (hx : x < (idTo n ns (2 ^ n)).length) (he : (idTo n ns (2 ^ n)).getD x 0 = dnI ns k) : Irr (idTo n ns (2 ^ n)).length (ta (idM n ns)) x := by
  have A := (id_la hm).A
  obtain ⟨c, hc, hce⟩ := id_at (hv.get k) (ns_idl hv hok hk)
  have hirr := okB_irr hok hk
  have hcx : ta (idM n ns) c x = c := (id_le hv hok hc hx).2 (by rw [hce, he]; exact sub_iff.2 fun i hi => (dnI_bit ns k i).2 (.inl hi))
  have hne : c ≠ x := fun e => by
    subst e
    have := (dnI_bit ns k k).2 (.inr rfl)
    rw [← he, hce] at this
    have h2 : lt ns k k = true := this
    rw [hirr] at h2; cases h2
  have hlow : ∀ y, y < (idTo n ns (2 ^ n)).length → y ≠ x → ta (idM n ns) y x = y → ta (idM n ns) y c = y := fun y hy hyx hle => by
    refine (id_le hv hok hy hc).2 (sub_iff.2 fun i hi => ?_)
    rw [hce]
    have h1 := sub_iff.1 ((id_le hv hok hy hx).1 hle) i hi
    rw [he] at h1
    rcases (dnI_bit ns k i).1 h1 with h2 | rfl
    · exact h2
    · exfalso
      refine hyx (A.anti hy hx hle ((id_le hv hok hx hy).2 ?_))
      rw [he]
      exact (dnI_sub hv hok (id_get hy).2 hk).2 hi
  refine nc_one.2 ⟨c, hc, decide_eq_true ⟨⟨hne, hcx⟩, fun z hz => ?_⟩, fun y hy hyc => ?_⟩
  · by_cases e1 : z = x
    · exact .inl e1
    · by_cases e2 : z = c
      · exact .inr (.inl e2)
      · by_cases e3 : ta (idM n ns) z x = z
        · exact .inr (.inr (.inl fun e4 => e2 (A.anti hz hc (hlow z hz e1 e3) e4)))
        · exact .inr (.inr (.inr e3))
  · have hcv := of_decide_eq_true hyc
    have h1 := hlow y hy hcv.1.1 hcv.1.2
    rcases hcv.2 c hc with h2 | h2 | h2 | h2
    · exact absurd h2 hne
    · exact h2.symm
    · exact absurd h1 h2
    · exact absurd hcx h2
/-- An irreducible ideal is that of one point. -/
theorem irr_dn {x : Nat} (hx : x < (idTo n ns (2 ^ n)).length) (hi : Irr (idTo n ns (2 ^ n)).length (ta (idM n ns)) x) : ∃ k, k < n ∧ (idTo n ns (2 ^ n)).getD x 0 = dnI ns k := by
  have hla := id_la hm
  have A := hla.A
  have h0 : 0 < (idTo n ns (2 ^ n)).length := by have := hla.n1; omega
  have hex : ∀ k, k < n → ∃ j, j < (idTo n ns (2 ^ n)).length ∧ (idTo n ns (2 ^ n)).getD j 0 = dnI ns k := fun k hk => id_at (dnI_lt hv hok hk) (dnI_idl hv hok hk)
  obtain ⟨I, hIl, hI⟩ : ∃ I : List Nat, I.length = n ∧ ∀ k, k < n → I.getD k 0 < (idTo n ns (2 ^ n)).length ∧ (idTo n ns (2 ^ n)).getD (I.getD k 0) 0 = dnI ns k := by
    refine ⟨(List.range n).map fun k => if h : k < n then Classical.choose (hex k h) else 0, by simp, fun k hk => ?_⟩
    have e : ((List.range n).map fun k => if h : k < n then Classical.choose (hex k h) else 0).getD k 0 = Classical.choose (hex k hk) := by
      rw [List.getD_eq_getElem?_getD, List.getElem?_map, List.getElem?_range hk]
      exact dif_pos hk
    rw [e]
    exact Classical.choose_spec (hex k hk)
  have hIm : ∀ i, i < I.length → I.getD i 0 < (idTo n ns (2 ^ n)).length := fun i hi => (hI i (by omega)).1
  have hlo := endE_lt A.fl _ (Nat.le_refl _) h0
  have hl := endE_least A h0 _ (Nat.le_refl _)
  have hxg := id_get hx
  obtain ⟨b1, b2⟩ := bJ_ok A (D := (idTo n ns (2 ^ n)).getD x 0) hIm hlo I.length (Nat.le_refl _)
  have hle : ta (idM n ns) x (bJ (ta (idJ n ns)) (endE (ta (idM n ns)) (idTo n ns (2 ^ n)).length) I ((idTo n ns (2 ^ n)).getD x 0) I.length) = x := by
    refine (id_le hv hok hx b1).2 (sub_iff.2 fun i hbi => ?_)
    have hin := bitI hv hok hxg.1 hbi
    have h1 := (id_le hv hok (hI i hin).1 b1).1 (b2 i (by omega) hbi)
    rw [(hI i hin).2] at h1
    exact sub_iff.1 h1 i ((dnI_bit ns i i).2 (.inr rfl))
  obtain ⟨k, k1, k2, k3⟩ := bJ_prime A (D := (idTo n ns (2 ^ n)).getD x 0) hIm hlo hl (fun x y z hx hy hz => id_dist hv hok hx hy hz) hx hi I.length (Nat.le_refl _) hle
  rw [hIl] at k1
  refine ⟨k, k1, sub_eq ?_ ((dnI_sub hv hok hxg.2 k1).2 k2)⟩
  have := (id_le hv hok hx (hI k k1).1).1 k3
  rw [(hI k k1).2] at this
  exact this
/-- The points, in the row of their ideals. -/
theorem pts_ex : ∃ K : List Nat, K.length = n ∧ (irT (idTo n ns (2 ^ n)).length (idM n ns) (idTo n ns (2 ^ n)).length).length = n ∧ (∀ i, i < n → K.getD i 0 < n ∧ ((idTo n ns (2 ^ n)).getD ((irT (idTo n ns (2 ^ n)).length (idM n ns) (idTo n ns (2 ^ n)).length).getD i 0) 0 = dnI ns (K.getD i 0))) ∧
    (∀ p, p < n → ∃ i, i < n ∧ K.getD i 0 = p) ∧ ∀ a b, a < n → b < n → lt (ioN (idTo n ns (2 ^ n)).length (idM n ns)) a b = lt ns (K.getD a 0) (K.getD b 0) := by
  have hla := id_la hm
  have hg := fun i => @irT_get (idTo n ns (2 ^ n)).length (idM n ns) i
  have hat := fun p => @irT_at (idTo n ns (2 ^ n)).length (idM n ns) p
  have hinc := fun i j => @rng_one (fun x => decide (nc (fun y => decide (CovP (idTo n ns (2 ^ n)).length (ta (idM n ns)) x y)) (idTo n ns (2 ^ n)).length = 1)) (idTo n ns (2 ^ n)).length i j
  have hex : ∀ i, i < (irT (idTo n ns (2 ^ n)).length (idM n ns) (idTo n ns (2 ^ n)).length).length → ∃ k, k < n ∧ (idTo n ns (2 ^ n)).getD ((irT (idTo n ns (2 ^ n)).length (idM n ns) (idTo n ns (2 ^ n)).length).getD i 0) 0 = dnI ns k := fun i hi => irr_dn hv hok hm (hg i hi).1 (hg i hi).2
  have hex2 : ∀ k, k < n → ∃ i, i < (irT (idTo n ns (2 ^ n)).length (idM n ns) (idTo n ns (2 ^ n)).length).length ∧ (idTo n ns (2 ^ n)).getD ((irT (idTo n ns (2 ^ n)).length (idM n ns) (idTo n ns (2 ^ n)).length).getD i 0) 0 = dnI ns k := fun k hk => by
    obtain ⟨x, hx, he⟩ := id_at (dnI_lt hv hok hk) (dnI_idl hv hok hk)
    obtain ⟨i, hi, rfl⟩ := hat x hx (dn_irr hv hok hm hk hx he)
    exact ⟨i, hi, he⟩
  have hlen : (irT (idTo n ns (2 ^ n)).length (idM n ns) (idTo n ns (2 ^ n)).length).length = n := by
    refine Nat.le_antisymm (countT_le (P := fun i k => (idTo n ns (2 ^ n)).getD ((irT (idTo n ns (2 ^ n)).length (idM n ns) (idTo n ns (2 ^ n)).length).getD i 0) 0 = dnI ns k) hex fun i i' k hii hi' h1 h2 => ?_) (countT_le (P := fun k i => (idTo n ns (2 ^ n)).getD ((irT (idTo n ns (2 ^ n)).length (idM n ns) (idTo n ns (2 ^ n)).length).getD i 0) 0 = dnI ns k) hex2 fun k k' i hkk hk' h1 h2 => ?_)
    · have h3 := (id_StJ n ns).one _ _ (hg i (Nat.lt_trans hii hi')).1 (hg i' hi').1 (h1.trans h2.symm)
      have := hinc i i' (Nat.lt_trans hii hi') hi' h3
      omega
    · have := dnI_inj hv hok (by omega) hk' (h1.symm.trans h2)
      omega
  refine ⟨(List.range n).map fun i => if h : i < (irT (idTo n ns (2 ^ n)).length (idM n ns) (idTo n ns (2 ^ n)).length).length then Classical.choose (hex i h) else 0, by simp, hlen, ?_⟩
  have hK : ∀ i, i < n → ((List.range n).map fun i => if h : i < (irT (idTo n ns (2 ^ n)).length (idM n ns) (idTo n ns (2 ^ n)).length).length then Classical.choose (hex i h) else 0).getD i 0 < n ∧ ((idTo n ns (2 ^ n)).getD ((irT (idTo n ns (2 ^ n)).length (idM n ns) (idTo n ns (2 ^ n)).length).getD i 0) 0 = dnI ns (((List.range n).map fun i => if h : i < (irT (idTo n ns (2 ^ n)).length (idM n ns) (idTo n ns (2 ^ n)).length).length then Classical.choose (hex i h) else 0).getD i 0)) := fun i hi => by
    have hi2 : i < (irT (idTo n ns (2 ^ n)).length (idM n ns) (idTo n ns (2 ^ n)).length).length := by omega
    have e : ((List.range n).map fun i => if h : i < (irT (idTo n ns (2 ^ n)).length (idM n ns) (idTo n ns (2 ^ n)).length).length then Classical.choose (hex i h) else 0).getD i 0 = Classical.choose (hex i hi2) := by
      rw [List.getD_eq_getElem?_getD, List.getElem?_map, List.getElem?_range hi]
      exact dif_pos hi2
    rw [e]
    exact Classical.choose_spec (hex i hi2)
  generalize ((List.range n).map fun i => if h : i < (irT (idTo n ns (2 ^ n)).length (idM n ns) (idTo n ns (2 ^ n)).length).length then Classical.choose (hex i h) else 0) = K at *
  refine ⟨hK, fun p hp => ?_, fun a b ha hb => ?_⟩
  · obtain ⟨i, hi, he⟩ := hex2 p hp
    refine ⟨i, by omega, ?_⟩
    exact dnI_inj hv hok (hK i (by omega)).1 hp ((hK i (by omega)).2.symm.trans he)
  · obtain ⟨a1, a2⟩ := hK a ha
    obtain ⟨b1, b2⟩ := hK b hb
    have ha2 : a < (irT (idTo n ns (2 ^ n)).length (idM n ns) (idTo n ns (2 ^ n)).length).length := by omega
    have hb2 : b < (irT (idTo n ns (2 ^ n)).length (idM n ns) (idTo n ns (2 ^ n)).length).length := by omega
    rw [Bool.eq_iff_iff, io_lt hla ha2 hb2, id_le hv hok (hg a ha2).1 (hg b hb2).1, a2, b2, dnI_le hv hok a1 b1]
    constructor
    · rintro ⟨h1, h2 | h2⟩
      · exact h2
      · exact absurd ((id_StJ n ns).one _ _ (hg a ha2).1 (hg b hb2).1 (by rw [a2, b2, h2])) h1
    · intro h
      refine ⟨fun e => ?_, .inl h⟩
      rw [e, b2] at a2
      have := dnI_inj hv hok b1 a1 a2
      rw [this, okB_irr hok a1] at h; cases h
end
end Go.Proofs.Ytjepdcfiogjmgaa
