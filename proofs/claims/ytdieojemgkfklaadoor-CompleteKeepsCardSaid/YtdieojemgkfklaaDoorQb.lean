/- Where an order's points are in the lattice of its cuts (plain). -/
import Derived.Test.YtdieojemgkfklaaDoorKl
import Derived.Test.YtdieojemgkfklaaDoorKm
import Derived.Test.YtdieojemgkfklaaDoorKh
set_option linter.unusedSimpArgs false
set_option linter.unusedVariables false
set_option maxRecDepth 20000
namespace Go.Proofs.YtdieojemgkfklaaDoor
attribute [local irreducible] QOp aL aC qL
/-- A point, and all below it. -/
def dnC (ns : List Nat) (p : Nat) : Nat := ns.getD p 0 ||| 2 ^ p
theorem dn_bit (ns : List Nat) (p k : Nat) : (dnC ns p).testBit k = upB ns k p := by
  unfold dnC; rw [or_bit]; rfl
theorem upB_rfl (ns : List Nat) (a : Nat) : upB ns a a = true := by unfold upB; rw [decide_eq_true rfl]; rfl
theorem upB_tr {n : Nat} {ns : List Nat} (hok : okB n ns = true) {a b c : Nat} (_ha : a < n) (hb : b < n) (hc : c < n) (h1 : upB ns a b = true) (h2 : upB ns b c = true) : upB ns a c = true := by
  unfold upB at *
  rw [Bool.or_eq_true, decide_eq_true_eq] at *
  rcases h1 with rfl | h1
  · exact h2
  · rcases h2 with rfl | h2
    · exact .inr h1
    · exact .inr (okB_tr hok hc hb h2 h1)
theorem upB_an {n : Nat} {ns : List Nat} (hok : okB n ns = true) {a b : Nat} (ha : a < n) (hb : b < n) (h1 : upB ns a b = true) (h2 : upB ns b a = true) : a = b := by
  unfold upB at *
  rw [Bool.or_eq_true, decide_eq_true_eq] at *
  rcases h1 with h1 | h1
  · exact h1
  · rcases h2 with h2 | h2
    · exact h2.symm
    · have := okB_irr hok ha
      rw [okB_tr hok ha hb h2 h1] at this; cases this
theorem dn_lt {n : Nat} {ns : List Nat} (hv : Vld n ns) {p : Nat} (hp : p < n) : dnC ns p < 2 ^ n := Nat.or_lt_two_pow (hv.get p) (Nat.pow_lt_pow_right (by decide) hp)
theorem low_cut {n : Nat} {ns : List Nat} {q : Nat} (hq : q < 2 ^ n) : cutC n ns (bs (bndP n ns q false) n) = bs (bndP n ns q false) n :=
  sub_eq (up_anti (low_up hq)) (cut_up (bs_lt _ _))
theorem dn_cut {n : Nat} {ns : List Nat} (hv : Vld n ns) {p : Nat} (hp : p < n) : cutC n ns (dnC ns p) = dnC ns p := by
  have h := low_cut (n := n) (ns := ns) (q := 2 ^ p) (Nat.pow_lt_pow_right (by decide) hp)
  rw [low_one hv hp] at h
  exact h
/-- The place of a point. -/
def atN (n : Nat) (ns : List Nat) (p : Nat) : Nat := plN (cutT n ns (2 ^ n)) (dnC ns p)
theorem at_ok {n : Nat} {ns : List Nat} (hv : Vld n ns) {p : Nat} (hp : p < n) : atN n ns p < (cutT n ns (2 ^ n)).length ∧ (cutT n ns (2 ^ n)).getD (atN n ns p) 0 = dnC ns p ∧ plc (cutT n ns (2 ^ n)) (dnC ns p) = (atN n ns p : Int) := by
  obtain ⟨i, h1, h2⟩ := rng_at (p := fun s => decide (cutC n ns s = s)) (k := 2 ^ n) (dn_lt hv hp) (decide_eq_true (dn_cut hv hp))
  have h3 := plN_of (cut_StJ n ns) (s := dnC ns p) (k := i) h1 h2
  have e : atN n ns p = i := h3.2
  rw [e]
  exact ⟨h1, h2, h3.1⟩
theorem plT_at {n : Nat} {ns : List Nat} (hv : Vld n ns) : plT (cutT n ns (2 ^ n)) ns n = nl ((List.range n).map (atN n ns)) := by
  unfold plT nl
  rw [List.map_map]
  exact List.map_congr_left fun p hp => (at_ok hv (List.mem_range.1 hp)).2.2
theorem dn_sub {n : Nat} {ns : List Nat} (hok : okB n ns = true) (hv : Vld n ns) {a b : Nat} (ha : a < n) (hb : b < n) : sub (dnC ns a) (dnC ns b) = true ↔ upB ns a b = true := by
  rw [sub_iff]
  constructor
  · intro h
    have := h a (by rw [dn_bit]; exact upB_rfl ns a)
    rwa [dn_bit] at this
  · intro h i hi
    have hin := bit_in (dn_lt hv ha) hi
    rw [dn_bit] at hi ⊢
    exact upB_tr hok hin ha hb hi h
theorem at_le {n : Nat} {ns : List Nat} (hok : okB n ns = true) (hv : Vld n ns) {a b : Nat} (ha : a < n) (hb : b < n) : decide (mtN (cutT n ns (2 ^ n)) (atN n ns a) (atN n ns b) = atN n ns a) = upB ns a b := by
  rw [Bool.eq_iff_iff, decide_eq_true_eq, (cut_StJ n ns).below (at_ok hv ha).1 (at_ok hv hb).1, (at_ok hv ha).2.1, (at_ok hv hb).2.1]
  exact dn_sub hok hv ha hb
theorem two_bit (a b k : Nat) : (2 ^ a ||| 2 ^ b).testBit k = true ↔ k = a ∨ k = b := by
  rw [Nat.testBit_or, Nat.testBit_two_pow, Nat.testBit_two_pow, Bool.or_eq_true, decide_eq_true_eq, decide_eq_true_eq]
  exact ⟨fun h => h.elim (fun h => .inl h.symm) (fun h => .inr h.symm), fun h => h.elim (fun h => .inl h.symm) (fun h => .inr h.symm)⟩
theorem bnd_two {n : Nat} {ns : List Nat} {a b : Nat} (ha : a < n) (hb : b < n) {up : Bool} {j : Nat} : (bs (bndP n ns (2 ^ a ||| 2 ^ b) up) n).testBit j = true ↔ j < n ∧ (if up = true then upB ns a j else upB ns j a) = true ∧ (if up = true then upB ns b j else upB ns j b) = true := by
  rw [bnd_bit]
  refine and_congr_right fun _ => ⟨fun h => ⟨h a ha ((two_bit a b a).2 (.inl rfl)), h b hb ((two_bit a b b).2 (.inr rfl))⟩, fun h k _ hk => ?_⟩
  rcases (two_bit a b k).1 hk with rfl | rfl
  · exact h.1
  · exact h.2
theorem at_meet {n : Nat} {ns : List Nat} (hv : Vld n ns) {a b c : Nat} (ha : a < n) (hb : b < n) (hc : c < n) (hok : okB n ns = true)
    (h1 : (bs (bndP n ns (2 ^ a ||| 2 ^ b) false) n).testBit c = true) (h2 : sub (bs (bndP n ns (2 ^ a ||| 2 ^ b) false) n) (dnC ns c) = true) : mtN (cutT n ns (2 ^ n)) (atN n ns a) (atN n ns b) = atN n ns c := by
  obtain ⟨m1, m2⟩ := (cut_StJ n ns).mt (at_ok hv ha).1 (at_ok hv hb).1
  refine (cut_StJ n ns).one _ _ m1 (at_ok hv hc).1 ?_
  rw [m2, (at_ok hv ha).2.1, (at_ok hv hb).2.1, (at_ok hv hc).2.1]
  rw [bnd_two ha hb] at h1
  obtain ⟨_, g1, g2⟩ := h1
  rw [if_neg (by decide)] at g1 g2
  refine sub_eq (sub_trK (sub_iff.2 fun i hi => ?_) h2) (sub_land.2 ⟨(dn_sub hok hv hc ha).2 g1, (dn_sub hok hv hc hb).2 g2⟩)
  rw [Nat.testBit_and, Bool.and_eq_true] at hi
  have hin := bit_in (dn_lt hv ha) hi.1
  rw [dn_bit, dn_bit] at hi
  rw [bnd_two ha hb, if_neg (by decide), if_neg (by decide)]
  exact ⟨hin, hi⟩
theorem at_join {n : Nat} {ns : List Nat} (hv : Vld n ns) {a b c : Nat} (ha : a < n) (hb : b < n) (hc : c < n) (hok : okB n ns = true)
    (h1 : (bs (bndP n ns (2 ^ a ||| 2 ^ b) true) n).testBit c = true) (h2 : ∀ d, d < n → (bs (bndP n ns (2 ^ a ||| 2 ^ b) true) n).testBit d = true → upB ns c d = true) :
    jnN (cutT n ns (2 ^ n)) (fun a b => cutC n ns (a ||| b)) (atN n ns a) (atN n ns b) = atN n ns c := by
  obtain ⟨m1, m2⟩ := (cut_StJ n ns).jn (at_ok hv ha).1 (at_ok hv hb).1
  refine (cut_StJ n ns).one _ _ m1 (at_ok hv hc).1 ?_
  rw [m2, (at_ok hv ha).2.1, (at_ok hv hb).2.1, (at_ok hv hc).2.1]
  rw [bnd_two ha hb] at h1
  obtain ⟨_, g1, g2⟩ := h1
  rw [if_pos rfl] at g1 g2
  have k1 := cut_mono (n := n) (ns := ns) (sub_lor.2 ⟨(dn_sub hok hv ha hc).2 g1, (dn_sub hok hv hb hc).2 g2⟩)
  rw [dn_cut hv hc] at k1
  refine sub_eq k1 (sub_iff.2 fun i hi => ?_)
  have hin := bit_in (dn_lt hv hc) hi
  rw [dn_bit] at hi
  unfold cutC
  rw [bnd_bit]
  refine ⟨hin, fun d hd hdb => ?_⟩
  rw [if_neg (by decide)]
  refine upB_tr hok hin hc hd hi (h2 d hd ?_)
  have hd2 := (bnd_bit.1 hdb).2
  rw [bnd_two ha hb, if_pos rfl, if_pos rfl]
  refine ⟨hd, ?_, ?_⟩
  · have := hd2 a ha (by rw [Nat.testBit_or, dn_bit, upB_rfl, Bool.true_or]); rwa [if_pos rfl] at this
  · have := hd2 b hb (by rw [Nat.testBit_or, dn_bit ns b, upB_rfl, Bool.or_true]); rwa [if_pos rfl] at this
/-- Joins one behind the other. -/
def fJ (g : Nat → Nat → Nat) (e : Nat → Nat) (p : Nat → Bool) (lo : Nat) : Nat → Nat
  | 0 => lo
  | k + 1 => if p k = true then g (fJ g e p lo k) (e k) else fJ g e p lo k
theorem fJ_ok {m n : Nat} {f g : Nat → Nat → Nat} (L : Lt m f g) {e : Nat → Nat} {p : Nat → Bool} {lo x : Nat} (he : ∀ k, k < n → e k < m) (hx : x < m) (hlo : lo < m) (h0 : f lo x = lo) (hp : ∀ k, k < n → p k = true → f (e k) x = e k) :
    ∀ k, k ≤ n → fJ g e p lo k < m ∧ f (fJ g e p lo k) x = fJ g e p lo k ∧ ∀ a, a < k → p a = true → f (e a) (fJ g e p lo k) = e a
  | 0, _ => ⟨hlo, h0, fun a ha => by omega⟩
  | k + 1, hk => by
    obtain ⟨h1, h2, h3⟩ := fJ_ok L he hx hlo h0 hp k (by omega)
    have hek := he k (by omega)
    rw [fJ]
    split
    · rename_i hpk
      refine ⟨L.gl _ _ h1 hek, L.least h1 hek hx h2 (hp k (by omega) hpk), fun a ha hpa => ?_⟩
      by_cases hak : a = k
      · subst hak; exact L.above' h1 hek
      · exact L.trans (he a (by omega)) h1 (L.gl _ _ h1 hek) (h3 a (by omega) hpa) (L.above h1 hek)
    · rename_i hpk
      refine ⟨h1, h2, fun a ha hpa => ?_⟩
      by_cases hak : a = k
      · subst hak; exact absurd hpa hpk
      · exact h3 a (by omega) hpa
theorem cut_get {n : Nat} {ns : List Nat} {x : Nat} (hx : x < (cutT n ns (2 ^ n)).length) : (cutT n ns (2 ^ n)).getD x 0 < 2 ^ n ∧ cutC n ns ((cutT n ns (2 ^ n)).getD x 0) = (cutT n ns (2 ^ n)).getD x 0 := by
  have := rng_get (fun s => decide (cutC n ns s = s)) (2 ^ n) hx
  exact ⟨this.1, of_decide_eq_true this.2⟩
theorem cut_down {n : Nat} {ns : List Nat} (hok : okB n ns = true) {s i j : Nat} (hs : cutC n ns s = s) (hi : s.testBit i = true) (hj : j < n) (h : upB ns j i = true) : s.testBit j = true := by
  rw [← hs] at hi ⊢
  unfold cutC at hi ⊢
  rw [bnd_bit] at hi ⊢
  refine ⟨hj, fun k hk hkb => ?_⟩
  have := hi.2 k hk hkb
  rw [if_neg (by decide)] at this ⊢
  exact upB_tr hok hj hi.1 hk h this
theorem cut_joins {n : Nat} {ns : List Nat} (hok : okB n ns = true) (hv : Vld n ns) {x y : Nat} (hx : x < (cutT n ns (2 ^ n)).length) (hy : y < (cutT n ns (2 ^ n)).length)
    (h : ∀ a, a < n → mtN (cutT n ns (2 ^ n)) (atN n ns a) x = atN n ns a → mtN (cutT n ns (2 ^ n)) (atN n ns a) y = atN n ns a) : mtN (cutT n ns (2 ^ n)) x y = x := by
  rw [(cut_StJ n ns).below hx hy, sub_iff]
  intro i hi
  have hg := cut_get hx
  have hin := bit_in hg.1 hi
  have h1 := h i hin
  rw [(cut_StJ n ns).below (at_ok hv hin).1 hx, (cut_StJ n ns).below (at_ok hv hin).1 hy, (at_ok hv hin).2.1] at h1
  refine sub_iff.1 (h1 (sub_iff.2 fun j hj => ?_)) i (by rw [dn_bit]; exact upB_rfl ns i)
  have hjn := bit_in (dn_lt hv hin) hj
  rw [dn_bit] at hj
  exact cut_down hok hg.2 hi hjn hj
theorem cut_meets {n : Nat} {ns : List Nat} (hok : okB n ns = true) (hv : Vld n ns) {x y : Nat} (hx : x < (cutT n ns (2 ^ n)).length) (hy : y < (cutT n ns (2 ^ n)).length)
    (h : ∀ a, a < n → mtN (cutT n ns (2 ^ n)) x (atN n ns a) = x → mtN (cutT n ns (2 ^ n)) y (atN n ns a) = y) : mtN (cutT n ns (2 ^ n)) y x = y := by
  rw [(cut_StJ n ns).below hy hx, sub_iff]
  intro i hi
  have hg := cut_get hx
  have hin := bit_in (cut_get hy).1 hi
  rw [← hg.2]
  unfold cutC
  rw [bnd_bit]
  refine ⟨hin, fun k hk hkb => ?_⟩
  rw [if_neg (by decide)]
  have h1 := h k hk
  rw [(cut_StJ n ns).below hx (at_ok hv hk).1, (cut_StJ n ns).below hy (at_ok hv hk).1, (at_ok hv hk).2.1] at h1
  have h2 := sub_iff.1 (h1 (sub_iff.2 fun j hj => ?_)) i hi
  · rwa [dn_bit] at h2
  · rw [dn_bit]
    have := (bnd_bit.1 hkb).2 j (bit_in hg.1 hj) hj
    rwa [if_pos rfl] at this
end Go.Proofs.YtdieojemgkfklaaDoor
