import Derived.Test.YtdieojemgkfklaaDoorKx
import Derived.Test.YtdieojemgkfklaaDoorKl
import Derived.Test.YtdieojemgkfklaaDoorKw
import Derived.Test.YtdieojemgkfklaaDoorGk
set_option linter.unusedSimpArgs false
set_option linter.unusedVariables false
set_option maxRecDepth 20000
namespace Go.Proofs.YtdieojemgkfklaaDoor
theorem bsT_bs (p : Nat → Bool) : ∀ k, bsT p k = bs p k
  | 0 => rfl
  | k + 1 => by rw [bsT, bs, bsT_bs p k]
theorem orT_ofn (n : Nat) (p : Nat → Nat → Bool) : orT n p n = ofn n p := by
  unfold orT ofn
  exact List.map_congr_left fun b _ => bsT_bs _ n
theorem ts_some {n : Nat} (hn : n ≤ 10) {u : Nat → Nat → Bool} {x y p : Nat} (h : tsF n u x y = some p) : p < n ∧ (p = x ∨ u p x = true) ∧ (p = y ∨ u p y = true) ∧ ∀ z, z < n → (z = x ∨ u z x = true) → (z = y ∨ u z y = true) → z = p ∨ u z p = true := by
  obtain ⟨h1, h2⟩ := grT_mem (Nat.le_refl _) h
  have hm : ∀ q, q ∈ mbs (bs (tsP u x y) n) ↔ q < n ∧ (q = x ∨ u q x = true) ∧ (q = y ∨ u q y = true) := fun q => by
    rw [ts_mem hn]; unfold tsP; rw [Bool.and_eq_true, Bool.or_eq_true, Bool.or_eq_true, decide_eq_true_eq, decide_eq_true_eq]
  obtain ⟨a, b, c⟩ := (hm p).1 h1
  refine ⟨a, b, c, fun z hz e1 e2 => ?_⟩
  by_cases hzp : z = p
  · exact .inl hzp
  · exact .inr (grB_iff.1 h2 z ((hm z).2 ⟨hz, e1, e2⟩) hzp)
theorem tsF_congr {n : Nat} (hn : n ≤ 10) {u v : Nat → Nat → Bool} (h : ∀ a b, a < n → b < n → u a b = v a b) {x y : Nat} (hx : x < n) (hy : y < n) : tsF n u x y = tsF n v x y := by
  have e1 : bs (tsP u x y) n = bs (tsP v x y) n := bs_congr fun j hj => by unfold tsP; rw [h j x hj hx, h j y hj hy]
  unfold tsF
  rw [e1]
  have hm : ∀ q, q ∈ mbs (bs (tsP v x y) n) → q < n := fun q hq => ((ts_mem hn).1 hq).1
  generalize mbs (bs (tsP v x y) n) = L at hm
  have hg : ∀ p, p ∈ L → grB u L p = grB v L p := fun p hp => by
    rw [Bool.eq_iff_iff, grB_iff, grB_iff]
    exact ⟨fun k q hq hne => by rw [← h q p (hm q hq) (hm p hp)]; exact k q hq hne, fun k q hq hne => by rw [h q p (hm q hq) (hm p hp)]; exact k q hq hne⟩
  have key : ∀ k, k ≤ L.length → grT u L k = grT v L k := by
    intro k
    induction k with
    | zero => exact fun _ => rfl
    | succ k ih =>
      intro hk
      rw [grT, grT, ih (by omega), hg (L.getD k 0) (by rw [List.getD_eq_getElem?_getD, List.getElem?_eq_getElem (show k < L.length by omega)]; exact List.getElem_mem _)]
  exact key _ (Nat.le_refl _)
theorem tb_congr {n : Nat} (hn : n ≤ 10) {u v : Nat → Nat → Bool} (h : ∀ a b, a < n → b < n → u a b = v a b) : tbOk n u = tbOk n v ∧ tgT n u n = tgT n v n := by
  constructor
  · rw [Bool.eq_iff_iff, tbOk_iff, tbOk_iff]
    exact ⟨fun k x hx y hy => by rw [← tsF_congr hn h hx hy]; exact k x hx y hy, fun k x hx y hy => by rw [tsF_congr hn h hx hy]; exact k x hx y hy⟩
  · unfold tgT
    refine List.map_congr_left fun x hx => ?_
    congr 1
    unfold tgR
    exact List.map_congr_left fun y hy => by rw [tsF_congr hn h (List.mem_range.1 hx) (List.mem_range.1 hy)]
theorem dual_tb {n : Nat} (hn : n ≤ 10) (ns : List Nat) : latB n (ofn n (dualP ns)) = latB n ns ∧ tgT n (lt (ofn n (dualP ns))) n = tgT n (fun a b => lt ns b a) n ∧ tgT n (fun a b => lt (ofn n (dualP ns)) b a) n = tgT n (lt ns) n := by
  obtain ⟨a1, a2⟩ := @tb_congr n hn (lt (ofn n (dualP ns))) (fun a b => lt ns b a) fun a b ha hb => ofn_lt _ ha hb
  obtain ⟨b1, b2⟩ := @tb_congr n hn (fun a b => lt (ofn n (dualP ns)) b a) (lt ns) fun a b ha hb => ofn_lt _ hb ha
  refine ⟨?_, a2, b2⟩
  unfold latB
  rw [a1, b1, Bool.and_comm (tbOk n fun a b => lt ns b a)]
theorem tabs_la {n : Nat} {ns : List Nat} (hn : n ≤ 10) (hok : okB n ns = true) (hB : latB n ns = true) :
    ∃ M J, La n M J ∧ tn M = tgT n (lt ns) n ∧ tn J = tgT n (fun a b => lt ns b a) n ∧ ∀ a b, a < n → b < n → loP M a b = lt ns a b := by
  unfold latB at hB
  rw [Bool.and_eq_true, Bool.and_eq_true, decide_eq_true_eq] at hB
  obtain ⟨⟨t1, t2⟩, h0⟩ := hB
  have o1 := tbOk_iff.1 t1
  have o2 := tbOk_iff.1 t2
  have irr : ∀ a, a < n → lt ns a a = true → False := fun a ha h => by rw [okB_irr hok ha] at h; cases h
  have tr : ∀ x y z, x < n → y < n → z < n → (x = y ∨ lt ns x y = true) → (y = z ∨ lt ns y z = true) → (x = z ∨ lt ns x z = true) := fun x y z hx hy hz h1 h2 => by
    rcases h1 with rfl | h1
    · exact h2
    · rcases h2 with rfl | h2
      · exact .inr h1
      · exact .inr (okB_tr hok hz hy h2 h1)
  have an : ∀ x y, x < n → y < n → (x = y ∨ lt ns x y = true) → (y = x ∨ lt ns y x = true) → x = y := fun x y hx hy h1 h2 => by
    rcases h1 with h1 | h1
    · exact h1
    · rcases h2 with h2 | h2
      · exact h2.symm
      · exact (irr x hx (okB_tr hok hx hy h2 h1)).elim
  have F : ∀ x y, x < n → y < n → tsF n (lt ns) x y = some ((tsF n (lt ns) x y).getD n) := fun x y hx hy => by
    have := o1 x hx y hy
    cases hf : tsF n (lt ns) x y with
    | none => rw [hf] at this; cases this
    | some p => rfl
  have G : ∀ x y, x < n → y < n → tsF n (fun a b => lt ns b a) x y = some ((tsF n (fun a b => lt ns b a) x y).getD n) := fun x y hx hy => by
    have := o2 x hx y hy
    cases hf : tsF n (fun a b => lt ns b a) x y with
    | none => rw [hf] at this; cases this
    | some p => rfl
  have L : Lt n (fun x y => (tsF n (lt ns) x y).getD n) (fun x y => (tsF n (fun a b => lt ns b a) x y).getD n) :=
    lt_of_order (R := fun a b => a = b ∨ lt ns a b = true) (fun x _ => .inl rfl) tr an (fun x y hx hy => (ts_some hn (F x y hx hy)).1) (fun x y hx hy => (ts_some hn (G x y hx hy)).1)
      (fun x y z hx hy hz => by
        obtain ⟨p1, p2, p3, p4⟩ := ts_some hn (F x y hx hy)
        exact ⟨fun h => ⟨tr _ _ _ hz p1 hx h p2, tr _ _ _ hz p1 hy h p3⟩, fun h => p4 z hz h.1 h.2⟩)
      (fun x y z hx hy hz => by
        obtain ⟨p1, p2, p3, p4⟩ := ts_some hn (G x y hx hy)
        have q2 : x = (tsF n (fun a b => lt ns b a) x y).getD n ∨ lt ns x ((tsF n (fun a b => lt ns b a) x y).getD n) = true := p2.imp Eq.symm id
        have q3 : y = (tsF n (fun a b => lt ns b a) x y).getD n ∨ lt ns y ((tsF n (fun a b => lt ns b a) x y).getD n) = true := p3.imp Eq.symm id
        exact ⟨fun h => ⟨tr _ _ _ hx p1 hz q2 h, tr _ _ _ hy p1 hz q3 h⟩, fun h => (p4 z hz (h.1.imp Eq.symm id) (h.2.imp Eq.symm id)).imp Eq.symm id⟩)
  refine ⟨_, _, la_tbT (by omega) (by omega) L, tb_eq t1, tb_eq t2, fun a b ha hb => ?_⟩
  unfold loP
  rw [tbT_ta _ ha hb]
  obtain ⟨p1, p2, p3, p4⟩ := ts_some hn (F a b ha hb)
  have p4 := p4 a ha (.inl rfl)
  try dsimp only
  generalize (tsF n (lt ns) a b).getD n = p at p1 p2 p3 p4
  rw [Bool.eq_iff_iff, Bool.and_eq_true, decide_eq_true_eq, decide_eq_true_eq]
  constructor
  · rintro ⟨h1, rfl⟩
    exact p3.resolve_left h1
  · intro h
    exact ⟨fun e => by subst e; exact irr a ha h, an p a p1 ha p2 (p4 (.inr h))⟩
end Go.Proofs.YtdieojemgkfklaaDoor
