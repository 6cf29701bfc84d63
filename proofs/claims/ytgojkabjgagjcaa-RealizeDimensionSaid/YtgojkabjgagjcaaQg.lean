import Derived.Test.YtgojkabjgagjcaaTi
import Derived.Test.YtgojkabjgagjcaaHu
import Derived.Test.YtgojkabjgagjcaaFe
set_option linter.unusedSimpArgs false
set_option linter.unusedVariables false
set_option linter.unusedSectionVars false
set_option maxRecDepth 20000
namespace Go.Proofs.Ytgojkabjgagjcaa
attribute [local irreducible] QOp aL aC qL
/-- Who is above each point. -/
structure Abv (n : Nat) (ns to : List Nat) : Prop where
  ctx : Ctx n n to
  bit : ∀ a b, a < n → b < n → (to.getD a 0).testBit b = lt ns a b
theorem Abv.lt {n : Nat} {ns to : List Nat} (h : Abv n ns to) {a b : Nat} (ha : a < n) (hb : (to.getD a 0).testBit b = true) : b < n ∧ lt ns a b = true := by
  have hbn := to_lt h.ctx hb
  exact ⟨hbn, by rw [← h.bit a b ha hbn]; exact hb⟩
theorem Abv.anti_le {n : Nat} {ns to : List Nat} (h : Abv n ns to) (hok : okB n ns = true) (hn : n ≤ 10) {w : List Int} (hm : Mt n n to w) {S : Nat} (hS : S < 2 ^ n) (ha : cnB ns false S = true) : pcTo S 10 ≤ fr w n := by
  have hS10 : S < 1024 := Nat.lt_of_lt_of_le hS (Nat.pow_le_pow_right (by decide) hn)
  have hA := (anti_all hok hS10 hS).1 ha
  rw [pcTo_10 hS hn]
  have hall := hm.hall h.ctx (T := bs (fun i => (List.range n).any fun s => S.testBit s && (decide (s = i) || _root_.Go.Proofs.Ytgojkabjgagjcaa.lt ns s i)) n)
  have hU : ∀ i, (bs (fun i => (List.range n).any fun s => S.testBit s && (decide (s = i) || _root_.Go.Proofs.Ytgojkabjgagjcaa.lt ns s i)) n).testBit i = true ↔ i < n ∧ ∃ s, s < n ∧ S.testBit s = true ∧ (s = i ∨ _root_.Go.Proofs.Ytgojkabjgagjcaa.lt ns s i = true) := fun i => by
    rw [bs_bit, Bool.and_eq_true, decide_eq_true_eq, List.any_eq_true]
    refine and_congr_right fun _ => ⟨?_, ?_⟩
    · rintro ⟨s, hs, h1⟩
      rw [Bool.and_eq_true, Bool.or_eq_true, decide_eq_true_eq] at h1
      exact ⟨s, List.mem_range.1 hs, h1.1, h1.2⟩
    · rintro ⟨s, hs, h1, h2⟩
      exact ⟨s, List.mem_range.2 hs, by rw [Bool.and_eq_true, Bool.or_eq_true, decide_eq_true_eq]; exact ⟨h1, h2⟩⟩
  generalize bs (fun i => (List.range n).any fun s => S.testBit s && (decide (s = i) || _root_.Go.Proofs.Ytgojkabjgagjcaa.lt ns s i)) n = U at *
  rw [pc_cn, pc_cn, cn_split (fun i => U.testBit i) (fun i => S.testBit i) n] at hall
  rw [pc_cn]
  have h1 : cn (fun i => S.testBit i) n ≤ cn (fun i => U.testBit i && S.testBit i) n := cn_mono n fun i hi hp => by
    rw [Bool.and_eq_true]
    exact ⟨(hU i).2 ⟨hi, i, hi, hp, .inl rfl⟩, hp⟩
  have h2 : cn (fun i => (orTo to U n).testBit i) n ≤ cn (fun i => U.testBit i && !S.testBit i) n := cn_mono n fun j hj hp => by
    obtain ⟨i, hi, hiU, hij⟩ := nb_iff.1 hp
    have hlt := (h.lt hi hij).2
    obtain ⟨_, s, hs, hsS, hsi⟩ := (hU i).1 hiU
    have hsj : _root_.Go.Proofs.Ytgojkabjgagjcaa.lt ns s j = true := by
      rcases hsi with rfl | hsi
      · exact hlt
      · exact okB_tr hok hj hi hlt hsi
    rw [Bool.and_eq_true, Bool.not_eq_true']
    refine ⟨(hU j).2 ⟨hj, s, hs, hsS, .inr hsj⟩, ?_⟩
    cases hq : S.testBit j
    · rfl
    · rw [hA s hs j hj hsS hq] at hsj; cases hsj
  omega
theorem Abv.anti_ge {n : Nat} {ns to : List Nat} (h : Abv n ns to) (hok : okB n ns = true) (hn : n ≤ 10) {s : KS} (hk : Kg n n to s) : ∃ S, S < 2 ^ n ∧ cnB ns false S = true ∧ fr s.w n ≤ pcTo S 10 := by
  refine ⟨bs (fun i => (cz n n to s).testBit i && !(orTo to (cz n n to s) n).testBit i) n, bs_lt _ _, ?_, ?_⟩
  · rw [anti_all hok (Nat.lt_of_lt_of_le (bs_lt _ _) (Nat.pow_le_pow_right (by decide) hn)) (bs_lt _ _)]
    intro i hi k hk h1 h2
    rw [bs_bit, Bool.and_eq_true, Bool.and_eq_true, Bool.not_eq_true'] at h1 h2
    cases hq : _root_.Go.Proofs.Ytgojkabjgagjcaa.lt ns i k
    · rfl
    · have := nb_iff.2 ⟨i, hi, h1.2.1, by rw [h.bit i k hi hk]; exact hq⟩
      rw [h2.2.2] at this; cases this
  · rw [pcTo_10 (bs_lt _ _) hn]
    have he := hk.eq
    rw [pc_cn, pc_cn, cn_split (fun i => (cz n n to s).testBit i) (fun i => (orTo to (cz n n to s) n).testBit i) n] at he
    have h1 : cn (fun i => (cz n n to s).testBit i && (orTo to (cz n n to s) n).testBit i) n ≤ cn (fun i => (orTo to (cz n n to s) n).testBit i) n := cn_mono n fun i _ hp => (Bool.and_eq_true _ _ ▸ hp).2
    rw [pc_cn, show cn (fun i => (bs (fun i => (cz n n to s).testBit i && !(orTo to (cz n n to s) n).testBit i) n).testBit i) n = cn (fun i => (cz n n to s).testBit i && !(orTo to (cz n n to s) n).testBit i) n from cn_congr n fun i hi => by rw [bs_bit, decide_eq_true hi, Bool.true_and]]
    omega
theorem wdT_max {P : Nat → Bool} {S : Nat} (hP : P S = true) : ∀ k, S < k → pcTo S 10 ≤ pcTo (wdT P k) 10
  | k + 1, h => by
    rw [wdT]
    by_cases e : S = k
    · subst e
      split
      · exact Nat.le_refl _
      · rename_i hc
        rcases Nat.lt_or_ge (pcTo (wdT P S) 10) (pcTo S 10) with h1 | h1
        · exact absurd ⟨h1, hP⟩ hc
        · exact h1
    · have := wdT_max hP k (by omega)
      split <;> omega
theorem wdT_P {P : Nat → Bool} (h0 : P 0 = true) : ∀ k, P (wdT P k) = true
  | 0 => h0
  | k + 1 => by
    rw [wdT]
    split
    · rename_i hc; exact hc.2
    · exact wdT_P h0 k
theorem cn_none (ns : List Nat) (c : Bool) : cnB ns c 0 = true := (cn_iff (by decide)).2 fun x y hx => by rw [Nat.zero_testBit] at hx; cases hx
/-- Dilworth: the widest antichain has as many points as have nobody behind them. -/
theorem Abv.dilworth {n : Nat} {ns to : List Nat} (h : Abv n ns to) (hok : okB n ns = true) (hn : n ≤ 10) : pcTo (wdT (cnB ns false) (2 ^ n)) 10 = fr (kp n n to n).w n := by
  have hk := koenig h.ctx
  refine Nat.le_antisymm (h.anti_le hok hn hk.mt (wdT_lt _ _ (Nat.pow_pos (by decide))) (wdT_P (cn_none ns false) _)) ?_
  obtain ⟨S, h1, h2, h3⟩ := h.anti_ge hok hn hk
  exact Nat.le_trans h3 (wdT_max h2 _ h1)
/-! Chains. -/
def chF (w : List Int) : Nat → Int → List Nat
  | 0, _ => []
  | f + 1, p => if p < 0 then [] else p.toNat :: chF w f (w.getD p.toNat 0)
theorem chF_pos (w : List Int) (f : Nat) {p : Nat} : chF w (f + 1) p = p :: chF w f (w.getD p 0) := by
  rw [chF, if_neg (by omega)]; rfl
theorem chF_len (w : List Int) : ∀ (f : Nat) (p : Int), (chF w f p).length ≤ f
  | 0, _ => Nat.le_refl 0
  | f + 1, p => by
    rw [chF]
    split
    · exact Nat.zero_le _
    · have := chF_len w f (w.getD p.toNat 0)
      rw [List.length_cons]; omega
/-- One step of a chain. -/
theorem chF_step {w : List Int} : ∀ (f : Nat) (p : Int) (i : Nat), i + 1 < (chF w f p).length → w.getD ((chF w f p).getD i 0) 0 = ((chF w f p).getD (i + 1) 0 : Nat)
  | 0, _, i, h => by simp [chF] at h
  | f + 1, p, i, h => by
    rw [chF] at h ⊢
    split at h
    · simp at h
    · rename_i hp
      rw [if_neg hp]
      rw [List.length_cons] at h
      cases i with
      | zero =>
        cases f with
        | zero => simp [chF] at h
        | succ f =>
          rw [chF] at h ⊢
          split at h
          · simp at h
          · rename_i hq
            rw [if_neg hq]
            simp only [List.getD_cons_zero, List.getD_cons_succ]
            omega
      | succ i =>
        simp only [List.getD_cons_succ]
        exact chF_step f _ i (by omega)
theorem chF_head {w : List Int} {f : Nat} {p : Nat} : (chF w (f + 1) p).getD 0 0 = p ∧ 0 < (chF w (f + 1) p).length := by
  rw [chF_pos]; exact ⟨rfl, by simp⟩
theorem Mt.up {n : Nat} {ns to : List Nat} (h : Abv n ns to) {w : List Int} (hm : Mt n n to w) {x y : Nat} (hx : x < n) (he : w.getD x 0 = (y : Int)) : y < n ∧ lt ns x y = true := by
  rcases hm.ok x hx with h1 | ⟨z, hz, h1, h2⟩
  · omega
  · have : y = z := by omega
    subst this
    exact ⟨hz, by rw [← h.bit x y hx hz]; exact h2⟩
theorem chF_in {n : Nat} {ns to : List Nat} (h : Abv n ns to) {w : List Int} (hm : Mt n n to w) {f p : Nat} (hp : p < n) : ∀ i, i < (chF w f p).length → (chF w f p).getD i 0 < n := by
  intro i
  induction i with
  | zero =>
    intro hi
    cases f with
    | zero => simp [chF] at hi
    | succ f => rw [chF_head.1]; exact hp
  | succ i ih =>
    intro hi
    exact (Mt.up h hm (ih (by omega)) (chF_step f p i hi)).1
theorem chF_lt {n : Nat} {ns to : List Nat} (h : Abv n ns to) (hok : okB n ns = true) {w : List Int} (hm : Mt n n to w) {f p : Nat} (hp : p < n) {i : Nat} : ∀ j, i < j → j < (chF w f p).length → lt ns ((chF w f p).getD i 0) ((chF w f p).getD j 0) = true := by
  intro j
  induction j with
  | zero => intro h1; omega
  | succ j ih =>
    intro h1 h2
    have hj := chF_in h hm (f := f) hp j (by omega)
    have h3 := Mt.up h hm hj (chF_step f p j h2)
    by_cases e : i = j
    · subst e; exact h3.2
    · exact okB_tr hok h3.1 hj h3.2 (ih (by omega) (by omega))
theorem chF_rk {n : Nat} {ns to : List Nat} (h : Abv n ns to) (hok : okB n ns = true) {w : List Int} (hm : Mt n n to w) {f p : Nat} (hp : p < n) : ∀ i, i < (chF w f p).length → i ≤ rk n ns ((chF w f p).getD i 0) := by
  intro i
  induction i with
  | zero => intro _; exact Nat.zero_le _
  | succ i ih =>
    intro hi
    have hin := chF_in h hm (f := f) hp i (by omega)
    have h3 := Mt.up h hm hin (chF_step f p i hi)
    have := rk_lt hok hin h3.1 h3.2
    have := ih (by omega)
    omega
theorem rk_lt_n {n : Nat} {ns : List Nat} (hok : okB n ns = true) {x : Nat} (hx : x < n) : rk n ns x < n := by
  unfold rk
  have h1 := okB_irr hok hx
  have := countP_lt (p := fun a => lt ns a x) (q := fun _ => true) (x := x) (l := List.range n) (fun _ _ _ => rfl) (List.mem_range.2 hx) rfl h1
  rw [List.countP_true, List.length_range] at this
  exact this
/-- Nothing is left behind the fuel. -/
theorem chF_end {n : Nat} {ns to : List Nat} (h : Abv n ns to) (hok : okB n ns = true) {w : List Int} (hm : Mt n n to w) {p : Nat} (hp : p < n) (i : Nat) (hi : i < (chF w (n + 1) p).length) (y : Nat) (hy : w.getD ((chF w (n + 1) p).getD i 0) 0 = (y : Int)) : i + 1 < (chF w (n + 1) p).length := by
  have key : ∀ (f : Nat) (q : Int) (i : Nat), i < (chF w f q).length → i + 1 < f → ∀ y : Nat, w.getD ((chF w f q).getD i 0) 0 = (y : Int) → i + 1 < (chF w f q).length := by
    intro f
    induction f with
    | zero => intro q i h1; simp [chF] at h1
    | succ f ih =>
      intro q i h1 h2 y hy
      rw [chF] at h1 hy ⊢
      split at h1
      · simp at h1
      · rename_i hq
        rw [if_neg hq] at hy ⊢
        rw [List.length_cons] at h1 ⊢
        cases i with
        | zero =>
          simp only [List.getD_cons_zero] at hy
          rw [hy]
          cases f with
          | zero => omega
          | succ f => rw [chF_pos, List.length_cons]; omega
        | succ i =>
          simp only [List.getD_cons_succ] at hy
          have := ih _ i (by omega) (by omega) y hy
          omega
  have h1 := chF_rk h hok hm (f := n + 1) hp i hi
  have h2 := rk_lt_n hok (chF_in h hm (f := n + 1) hp i hi)
  exact key (n + 1) p i hi (by omega) y hy
/-- A point to which none goes. -/
def hitB (w : List Int) (n x : Nat) : Bool := (List.range n).any fun i => decide (w.getD i 0 = (x : Int))
theorem hit_iff {w : List Int} {n x : Nat} : hitB w n x = true ↔ ∃ i, i < n ∧ w.getD i 0 = (x : Int) := by
  unfold hitB
  rw [List.any_eq_true]
  exact ⟨fun ⟨i, h1, h2⟩ => ⟨i, List.mem_range.1 h1, of_decide_eq_true h2⟩, fun ⟨i, h1, h2⟩ => ⟨i, List.mem_range.2 h1, decide_eq_true h2⟩⟩
theorem chF_one {n : Nat} {ns to : List Nat} (h : Abv n ns to) {w : List Int} (hm : Mt n n to w) {f g p q : Nat} (hp : p < n) (hq : q < n) (hp1 : hitB w n p = false) (hq1 : hitB w n q = false) : ∀ i j, i < (chF w f p).length → j < (chF w g q).length → (chF w f p).getD i 0 = (chF w g q).getD j 0 → p = q ∧ i = j := by
  have hd : ∀ {f p : Nat}, 0 < (chF w f p).length → (chF w f p).getD 0 0 = p := fun {f p} h0 => by
    cases f with
    | zero => simp [chF] at h0
    | succ f => exact chF_head.1
  intro i
  induction i with
  | zero =>
    intro j hi hj he
    rw [hd hi] at he
    cases j with
    | zero => rw [hd hj] at he; exact ⟨he, rfl⟩
    | succ j =>
      have := chF_step g q j hj
      rw [← he] at this
      have h2 := hit_iff.2 ⟨_, chF_in h hm (f := g) hq j (by omega), this⟩
      rw [hp1] at h2; cases h2
  | succ i ih =>
    intro j hi hj he
    have h1 := chF_step f p i hi
    cases j with
    | zero =>
      rw [hd hj] at he
      rw [he] at h1
      have h2 := hit_iff.2 ⟨_, chF_in h hm (f := f) hp i (by omega), h1⟩
      rw [hq1] at h2; cases h2
    | succ j =>
      have h2 := chF_step g q j hj
      rw [he, ← h2] at h1
      have h3 := hm.inj _ _ (chF_in h hm (f := f) hp i (by omega)) (chF_in h hm (f := g) hq j (by omega)) h1 (by rw [h1, h2]; omega)
      obtain ⟨a, b⟩ := ih j (by omega) (by omega) h3
      exact ⟨a, by omega⟩
theorem chF_all {n : Nat} {ns to : List Nat} (h : Abv n ns to) (hok : okB n ns = true) {w : List Int} (hm : Mt n n to w) : ∀ (r x : Nat), x < n → rk n ns x ≤ r → ∃ p, p < n ∧ hitB w n p = false ∧ ∃ i, i < (chF w (n + 1) p).length ∧ (chF w (n + 1) p).getD i 0 = x := by
  intro r
  induction r with
  | zero =>
    intro x hx hr
    cases hq : hitB w n x
    · exact ⟨x, hx, hq, 0, chF_head.2, chF_head.1⟩
    · obtain ⟨y, hy, he⟩ := hit_iff.1 hq
      have := rk_lt hok hy hx (Mt.up h hm hy he).2
      omega
  | succ r ih =>
    intro x hx hr
    cases hq : hitB w n x
    · exact ⟨x, hx, hq, 0, chF_head.2, chF_head.1⟩
    · obtain ⟨y, hy, he⟩ := hit_iff.1 hq
      have hlt := rk_lt hok hy hx (Mt.up h hm hy he).2
      obtain ⟨p, hp, hp1, i, hi, hiy⟩ := ih y hy (by omega)
      rw [← hiy] at he
      have h1 := chF_end h hok hm hp i hi x he
      have h2 := chF_step (n + 1) p i h1
      rw [he] at h2
      exact ⟨p, hp, hp1, i + 1, h1, by omega⟩
theorem starts_fr {n : Nat} {ns to : List Nat} (h : Abv n ns to) {w : List Int} (hm : Mt n n to w) : cn (fun x => !hitB w n x) n = fr w n := by
  have h1 := cn_not (fun x => hitB w n x) n
  have h2 := cn_not (fun i => decide (w.getD i 0 = -1)) n
  have h3 : cn (fun x => hitB w n x) n ≤ cn (fun i => !decide (w.getD i 0 = -1)) n := by
    refine cn_inj (f := fun x => if hx : hitB w n x = true then Classical.choose (hit_iff.1 hx) else 0) n _ (fun x hx hp => ?_) (fun x y hx hy hp hq he => ?_)
    · rw [dif_pos hp]
      obtain ⟨a, b⟩ := Classical.choose_spec (hit_iff.1 hp)
      refine ⟨a, ?_⟩
      rw [b, Bool.not_eq_true', decide_eq_false_iff_not]
      omega
    · rw [dif_pos hp, dif_pos hq] at he
      obtain ⟨_, b⟩ := Classical.choose_spec (hit_iff.1 hp)
      obtain ⟨_, b2⟩ := Classical.choose_spec (hit_iff.1 hq)
      rw [he, b2] at b
      omega
  have h4 : cn (fun i => !decide (w.getD i 0 = -1)) n ≤ cn (fun x => hitB w n x) n := by
    have hv : ∀ i, i < n → (!decide (w.getD i 0 = -1)) = true → ∃ y : Nat, y < n ∧ w.getD i 0 = y := fun i hi hp => by
      rw [Bool.not_eq_true', decide_eq_false_iff_not] at hp
      rcases hm.ok i hi with h3 | ⟨y, hy, h3, _⟩
      · exact absurd h3 hp
      · exact ⟨y, hy, h3⟩
    refine cn_inj (f := fun i => (w.getD i 0).toNat) n _ (fun i hi hp => ?_) (fun i j hi hj hp hq he => ?_)
    · obtain ⟨y, hy, h3⟩ := hv i hi hp
      rw [h3]
      exact ⟨hy, hit_iff.2 ⟨i, hi, h3⟩⟩
    · obtain ⟨y, hy, h3⟩ := hv i hi hp
      obtain ⟨z, hz, h5⟩ := hv j hj hq
      exact hm.inj i j hi hj (by rw [h3, h5] at he ⊢; omega) (by rw [h3]; omega)
  unfold fr
  omega
end Go.Proofs.Ytgojkabjgagjcaa
