import Derived.Test.YtdieojemgkfklaaDoorQd
import Derived.Test.YtdieojemgkfklaaDoorKx
import Derived.Test.YtdieojemgkfklaaDoorKq
import Derived.Test.YtdieojemgkfklaaDoorGk
import Derived.Test.YtdieojemgkfklaaDoorJd
set_option linter.unusedSimpArgs false
set_option linter.unusedVariables false
set_option maxRecDepth 20000
namespace Go.Proofs.YtdieojemgkfklaaDoor
attribute [local irreducible] QOp aL aC qL
theorem dual_up {n : Nat} {ns : List Nat} {i j : Nat} (hi : i < n) (hj : j < n) : upB (ofn n (dualP ns)) i j = upB ns j i := by
  unfold upB
  rw [ofn_lt _ hi hj, decide_eq_decide.2 (eq_comm (a := i) (b := j))]
  rfl
theorem dual_bnd {n : Nat} {ns : List Nat} (s : Nat) (up : Bool) : bs (bndP n (ofn n (dualP ns)) s up) n = bs (bndP n ns s (!up)) n := bs_congr fun j hj => by
  unfold bndP
  rw [Bool.eq_iff_iff, List.all_eq_true, List.all_eq_true]
  refine forall_congr' fun k => ⟨fun h hk => ?_, fun h hk => ?_⟩
  · have := h hk
    rw [dual_up (List.mem_range.1 hk) hj, dual_up hj (List.mem_range.1 hk)] at this
    cases up <;> exact this
  · have := h hk
    rw [dual_up (List.mem_range.1 hk) hj, dual_up hj (List.mem_range.1 hk)]
    cases up <;> exact this
theorem ulu {n : Nat} {ns : List Nat} {s : Nat} (up : Bool) (hs : s < 2 ^ n) : bs (bndP n ns (bs (bndP n ns (bs (bndP n ns s up) n) (!up)) n) up) n = bs (bndP n ns s up) n := by
  cases up
  · exact low_cut hs
  · exact sub_eq (up_anti (cut_up hs)) (low_up (bs_lt _ _))
theorem cuts_le {n : Nat} (ns : List Nat) : (cutT n ns (2 ^ n)).length ≤ (cutT n (ofn n (dualP ns)) (2 ^ n)).length := by
  refine countT_le (P := fun i j => (cutT n (ofn n (dualP ns)) (2 ^ n)).getD j 0 = bs (bndP n ns ((cutT n ns (2 ^ n)).getD i 0) true) n) (fun i hi => ?_) fun i i' j hii hi' h1 h2 => ?_
  · refine rng_at (p := fun s => decide (cutC n (ofn n (dualP ns)) s = s)) (bs_lt _ _) (decide_eq_true ?_)
    unfold cutC
    rw [dual_bnd, dual_bnd]
    exact ulu true (cut_get hi).1
  · have h3 := h1.symm.trans h2
    have e1 := (cut_get (ns := ns) (n := n) (x := i) (by omega)).2
    have e2 := (cut_get (ns := ns) (n := n) (x := i') hi').2
    unfold cutC at e1 e2
    rw [h3] at e1
    have hi2 : i < (cutT n ns (2 ^ n)).length := Nat.lt_trans hii hi'
    have := rng_one (fun s => decide (cutC n ns s = s)) (2 ^ n) (i := i) (j := i') hi2 hi' (e1.symm.trans e2)
    omega
theorem dual_cutT {n : Nat} {ns : List Nat} : cutT n (ofn n (dualP (ofn n (dualP ns)))) (2 ^ n) = cutT n ns (2 ^ n) := by
  unfold cutT
  refine List.filter_congr fun s _ => ?_
  unfold cutC
  rw [dual_bnd, dual_bnd, dual_bnd, dual_bnd]
  rfl
theorem cuts_dual {n : Nat} (ns : List Nat) : (cutT n (ofn n (dualP ns)) (2 ^ n)).length = (cutT n ns (2 ^ n)).length := by
  have h1 := cuts_le (n := n) ns
  have h2 := cuts_le (n := n) (ofn n (dualP ns))
  rw [dual_cutT] at h2
  omega
theorem at_inj {n : Nat} {ns : List Nat} (hok : okB n ns = true) (hv : Vld n ns) {a b : Nat} (ha : a < n) (hb : b < n) (h : atN n ns a = atN n ns b) : a = b := by
  have e : dnC ns a = dnC ns b := by rw [← (at_ok hv ha).2.1, ← (at_ok hv hb).2.1, h]
  exact upB_an hok ha hb ((dn_sub hok hv ha hb).1 (by rw [e]; exact sub_rfl _)) ((dn_sub hok hv hb ha).1 (by rw [e]; exact sub_rfl _))
theorem cuts_ge {n : Nat} {ns : List Nat} (hok : okB n ns = true) (hv : Vld n ns) : n ≤ (cutT n ns (2 ^ n)).length :=
  countT_le (P := fun p j => j = atN n ns p) (fun p hp => ⟨_, (at_ok hv hp).1, rfl⟩) fun p p' j hpp hp' h1 h2 => by
    have := at_inj hok hv (by omega) hp' (h1.symm.trans h2)
    omega
theorem cuts_all {n : Nat} {ns : List Nat} (hok : okB n ns = true) (hv : Vld n ns) (he : (cutT n ns (2 ^ n)).length = n) {s : Nat} (hs : s < 2 ^ n) (hc : cutC n ns s = s) : ∃ p, p < n ∧ s = dnC ns p := by
  obtain ⟨i, h1, h2⟩ := rng_at (p := fun s => decide (cutC n ns s = s)) (k := 2 ^ n) hs (decide_eq_true hc)
  have hi : i < (cutT n ns (2 ^ n)).length := h1
  by_cases hx : ∃ p, p < n ∧ atN n ns p = i
  · obtain ⟨p, hp, hpi⟩ := hx
    refine ⟨p, hp, ?_⟩
    rw [← (at_ok hv hp).2.1, hpi]
    exact h2.symm
  · have hne : ∀ p, p < n → atN n ns p ≠ i := fun p hp hpi => hx ⟨p, hp, hpi⟩
    have := countT_le (T := n) (L := n - 1) (P := fun p j => j = if atN n ns p < i then atN n ns p else atN n ns p - 1) (fun p hp => by
      have h3 := (at_ok hv hp).1
      have h4 := hne p hp
      refine ⟨_, ?_, rfl⟩
      split <;> omega) fun p p' j hpp hp' h3 h4 => by
        have h5 := hne p (by omega)
        have h6 := hne p' hp'
        have h7 : atN n ns p = atN n ns p' := by
          subst h3
          split at h4 <;> split at h4 <;> omega
        have := at_inj hok hv (by omega) hp' h7
        omega
    omega
theorem ts_of {n : Nat} (hn : n ≤ 10) {u : Nat → Nat → Bool} (ha : ∀ a b, a < n → b < n → u a b = true → u b a = true → False) {x y p : Nat} (hp : p < n) (h1 : p = x ∨ u p x = true) (h2 : p = y ∨ u p y = true)
    (h3 : ∀ z, z < n → (z = x ∨ u z x = true) → (z = y ∨ u z y = true) → z = p ∨ u z p = true) : (tsF n u x y).isSome = true := by
  have hV : ∀ a b, (decide (a = b) || u a b) = true ↔ (a = b ∨ u a b = true) := fun a b => by rw [Bool.or_eq_true, decide_eq_true_eq]
  have h := gl_ts hn (V := fun a b => decide (a = b) || u a b) hV ha (x := x) (y := y) hp
  have hg : glB n (fun a b => decide (a = b) || u a b) x y p = true := by
    unfold glB
    rw [Bool.and_eq_true, Bool.and_eq_true, acc_iff]
    refine ⟨⟨(hV _ _).2 h1, (hV _ _).2 h2⟩, fun w hw => ?_⟩
    show (!(decide (w = x) || u w x) || !(decide (w = y) || u w y) || (decide (w = p) || u w p)) = true
    cases e1 : (decide (w = x) || u w x)
    · rfl
    · cases e2 : (decide (w = y) || u w y)
      · rfl
      · have := (hV w p).2 (h3 w hw ((hV _ _).1 e1) ((hV _ _).1 e2))
        simp only [this, Bool.or_true]
  rw [hg] at h
  have h4 := of_decide_eq_true h.symm
  exact (ts_le hn u x y).2.1 (by omega)
theorem ts_up {n : Nat} (hn : n ≤ 10) {u : Nat → Nat → Bool} {x y p : Nat} (h : tsF n u x y = some p) : p < n ∧ (p = x ∨ u p x = true) ∧ (p = y ∨ u p y = true) ∧ ∀ z, z < n → (z = x ∨ u z x = true) → (z = y ∨ u z y = true) → z = p ∨ u z p = true := by
  obtain ⟨h1, h2⟩ := grT_mem (Nat.le_refl _) h
  have hm : ∀ q, q ∈ mbs (bs (tsP u x y) n) ↔ q < n ∧ (q = x ∨ u q x = true) ∧ (q = y ∨ u q y = true) := fun q => by
    rw [ts_mem hn]; unfold tsP; rw [Bool.and_eq_true, Bool.or_eq_true, Bool.or_eq_true, decide_eq_true_eq, decide_eq_true_eq]
  obtain ⟨a, b, c⟩ := (hm p).1 h1
  refine ⟨a, b, c, fun z hz e1 e2 => ?_⟩
  by_cases hzp : z = p
  · exact .inl hzp
  · exact .inr (grB_iff.1 h2 z ((hm z).2 ⟨hz, e1, e2⟩) hzp)
theorem upB_iff {ns : List Nat} {a b : Nat} : upB ns a b = true ↔ (a = b ∨ lt ns a b = true) := by unfold upB; rw [Bool.or_eq_true, decide_eq_true_eq]
theorem lt_no {n : Nat} {ns : List Nat} (hok : okB n ns = true) {a b : Nat} (ha : a < n) (hb : b < n) (h1 : lt ns a b = true) (h2 : lt ns b a = true) : False := by
  have := okB_irr hok ha
  rw [okB_tr hok ha hb h2 h1] at this; cases this
/-- There is a meet, and a join, of each two, and some point. -/
theorem latB_iff {n : Nat} {ns : List Nat} (hn : n ≤ 10) (hok : okB n ns = true) : latB n ns = true ↔ 0 < n ∧ (∀ x y, x < n → y < n → ∃ p, p < n ∧ upB ns p x = true ∧ upB ns p y = true ∧ ∀ z, z < n → upB ns z x = true → upB ns z y = true → upB ns z p = true) ∧
    (∀ x y, x < n → y < n → ∃ p, p < n ∧ upB ns x p = true ∧ upB ns y p = true ∧ ∀ z, z < n → upB ns x z = true → upB ns y z = true → upB ns p z = true) := by
  have sw : ∀ {a b : Nat}, (a = b ∨ lt ns b a = true) ↔ upB ns b a = true := fun {a b} => by rw [upB_iff, eq_comm]
  have sv : ∀ {a b : Nat}, (a = b ∨ lt ns a b = true) ↔ upB ns a b = true := fun {a b} => upB_iff.symm
  unfold latB
  rw [Bool.and_eq_true, Bool.and_eq_true, decide_eq_true_eq, tbOk_iff, tbOk_iff]
  constructor
  · rintro ⟨⟨h1, h2⟩, h3⟩
    refine ⟨by omega, fun x y hx hy => ?_, fun x y hx hy => ?_⟩
    · obtain ⟨p, hp⟩ := Option.isSome_iff_exists.1 (h1 x hx y hy)
      obtain ⟨q1, q2, q3, q4⟩ := ts_up hn hp
      exact ⟨p, q1, sv.1 q2, sv.1 q3, fun z hz e1 e2 => sv.1 (q4 z hz (sv.2 e1) (sv.2 e2))⟩
    · obtain ⟨p, hp⟩ := Option.isSome_iff_exists.1 (h2 x hx y hy)
      obtain ⟨q1, q2, q3, q4⟩ := ts_up hn hp
      exact ⟨p, q1, sw.1 q2, sw.1 q3, fun z hz e1 e2 => sw.1 (q4 z hz (sw.2 e1) (sw.2 e2))⟩
  · rintro ⟨h1, h2, h3⟩
    refine ⟨⟨fun x hx y hy => ?_, fun x hx y hy => ?_⟩, by omega⟩
    · obtain ⟨p, hp, q1, q2, q3⟩ := h2 x y hx hy
      exact ts_of hn (fun a b ha hb => lt_no hok ha hb) hp (sv.2 q1) (sv.2 q2) fun z hz e1 e2 => sv.2 (q3 z hz (sv.1 e1) (sv.1 e2))
    · obtain ⟨p, hp, q1, q2, q3⟩ := h3 x y hx hy
      exact ts_of hn (fun a b ha hb h1 h2 => lt_no hok ha hb h2 h1) hp (sw.2 q1) (sw.2 q2) fun z hz e1 e2 => sw.2 (q3 z hz (sw.1 e1) (sw.1 e2))
theorem low_dn {n : Nat} {ns : List Nat} (hok : okB n ns = true) (h0 : 0 < n) (hm : ∀ x y, x < n → y < n → ∃ p, p < n ∧ upB ns p x = true ∧ upB ns p y = true ∧ ∀ z, z < n → upB ns z x = true → upB ns z y = true → upB ns z p = true)
    (hj : ∀ x y, x < n → y < n → ∃ p, p < n ∧ upB ns x p = true ∧ upB ns y p = true ∧ ∀ z, z < n → upB ns x z = true → upB ns y z = true → upB ns p z = true) (q : Nat) :
    ∀ k, k ≤ n → ∃ p, p < n ∧ ∀ i, i < n → (upB ns i p = true ↔ ∀ j, j < k → q.testBit j = true → upB ns i j = true)
  | 0, _ => by
    have top : ∀ k, k ≤ n → ∃ t, t < n ∧ ∀ j, j < k → upB ns j t = true := by
      intro k
      induction k with
      | zero => exact fun _ => ⟨0, h0, fun j hj => by omega⟩
      | succ k ih =>
        intro hk
        obtain ⟨t, ht, h1⟩ := ih (by omega)
        obtain ⟨s, hs, e1, e2, _⟩ := hj t k ht (by omega)
        refine ⟨s, hs, fun j hjk => ?_⟩
        by_cases hjk2 : j = k
        · subst hjk2; exact e2
        · exact upB_tr hok (by omega) ht hs (h1 j (by omega)) e1
    obtain ⟨t, ht, h1⟩ := top n (Nat.le_refl _)
    exact ⟨t, ht, fun i hi => ⟨fun _ j hj => by omega, fun _ => h1 i hi⟩⟩
  | k + 1, hk => by
    obtain ⟨p, hp, h1⟩ := low_dn hok h0 hm hj q k (by omega)
    cases hq : q.testBit k
    · refine ⟨p, hp, fun i hi => ?_⟩
      rw [h1 i hi]
      refine ⟨fun h j hjk hb => ?_, fun h j hjk => h j (by omega)⟩
      by_cases e : j = k
      · subst e; rw [hq] at hb; cases hb
      · exact h j (by omega) hb
    · obtain ⟨s, hs, e1, e2, e3⟩ := hm p k hp (by omega)
      refine ⟨s, hs, fun i hi => ⟨fun h j hjk hb => ?_, fun h => ?_⟩⟩
      · by_cases e : j = k
        · subst e; exact upB_tr hok hi hs (by omega) h e2
        · exact (h1 i hi).1 (upB_tr hok hi hs hp h e1) j (by omega) hb
      · exact e3 i hi ((h1 i hi).2 fun j hjk => h j (by omega)) (h k (by omega) hq)
theorem lat_cuts {n : Nat} {ns : List Nat} (hn : n ≤ 10) (hok : okB n ns = true) (hv : Vld n ns) : latB n ns = (decide ((cutT n ns (2 ^ n)).length = n) && decide (0 < n)) := by
  rw [Bool.eq_iff_iff, latB_iff hn hok, Bool.and_eq_true, decide_eq_true_eq, decide_eq_true_eq]
  constructor
  · rintro ⟨h0, hm, hj⟩
    refine ⟨Nat.le_antisymm ?_ (cuts_ge hok hv), h0⟩
    refine countT_le (P := fun i p => (cutT n ns (2 ^ n)).getD i 0 = dnC ns p) (fun i hi => ?_) fun i i' p hii hi' h1 h2 => ?_
    · obtain ⟨p, hp, h1⟩ := low_dn hok h0 hm hj (bs (bndP n ns ((cutT n ns (2 ^ n)).getD i 0) true) n) n (Nat.le_refl _)
      refine ⟨p, hp, ?_⟩
      have hg := cut_get hi
      refine Nat.eq_of_testBit_eq fun j => ?_
      rw [dn_bit, Bool.eq_iff_iff]
      by_cases hjn : j < n
      · rw [h1 j hjn, ← hg.2]
        unfold cutC
        rw [bnd_bit]
        rw [show bs (bndP n ns (bs (bndP n ns (bs (bndP n ns ((cutT n ns (2 ^ n)).getD i 0) true) n) false) n) true) n = bs (bndP n ns ((cutT n ns (2 ^ n)).getD i 0) true) n from ulu true hg.1]
        exact ⟨fun h => h.2, fun h => ⟨hjn, h⟩⟩
      · constructor
        · intro h; exact absurd (bit_in hg.1 h) hjn
        · intro h
          rw [← dn_bit] at h
          exact absurd (bit_in (dn_lt hv hp) h) hjn
    · have := rng_one (fun s => decide (cutC n ns s = s)) (2 ^ n) (i := i) (j := i') (Nat.lt_trans hii hi') hi' (h1.trans h2.symm)
      omega
  · rintro ⟨he, h0⟩
    have key : ∀ q, q < 2 ^ n → ∃ p, p < n ∧ ∀ i, i < n → (upB ns i p = true ↔ (bs (bndP n ns q false) n).testBit i = true) := fun q hq => by
      obtain ⟨p, hp, h1⟩ := cuts_all hok hv he (bs_lt _ _) (low_cut hq)
      exact ⟨p, hp, fun i _ => by rw [h1, dn_bit]⟩
    refine ⟨h0, fun x y hx hy => ?_, fun x y hx hy => ?_⟩
    · obtain ⟨p, hp, h1⟩ := key (2 ^ x ||| 2 ^ y) (Nat.or_lt_two_pow (Nat.pow_lt_pow_right (by decide) hx) (Nat.pow_lt_pow_right (by decide) hy))
      have h2 : ∀ i, i < n → (upB ns i p = true ↔ upB ns i x = true ∧ upB ns i y = true) := fun i hi => by
        rw [h1 i hi, bnd_two hx hy, if_neg (by decide), if_neg (by decide)]
        exact ⟨fun h => h.2, fun h => ⟨hi, h⟩⟩
      have h3 := (h2 p hp).1 (upB_rfl ns p)
      exact ⟨p, hp, h3.1, h3.2, fun z hz e1 e2 => (h2 z hz).2 ⟨e1, e2⟩⟩
    · obtain ⟨p, hp, h1⟩ := key (bs (bndP n ns (2 ^ x ||| 2 ^ y) true) n) (bs_lt _ _)
      have hU : ∀ z, (bs (bndP n ns (2 ^ x ||| 2 ^ y) true) n).testBit z = true ↔ z < n ∧ upB ns x z = true ∧ upB ns y z = true := fun z => by
        rw [bnd_two hx hy, if_pos rfl, if_pos rfl]
      have h2 : ∀ i, i < n → (upB ns i p = true ↔ ∀ z, z < n → upB ns x z = true → upB ns y z = true → upB ns i z = true) := fun i hi => by
        rw [h1 i hi, bnd_bit]
        exact ⟨fun h z hz e1 e2 => h.2 z hz ((hU z).2 ⟨hz, e1, e2⟩), fun h => ⟨hi, fun z hz hb => h z hz ((hU z).1 hb).2.1 ((hU z).1 hb).2.2⟩⟩
      exact ⟨p, hp, (h2 x hx).2 fun z _ e1 _ => e1, (h2 y hy).2 fun z _ _ e2 => e2, (h2 p hp).1 (upB_rfl ns p)⟩
end Go.Proofs.YtdieojemgkfklaaDoor
