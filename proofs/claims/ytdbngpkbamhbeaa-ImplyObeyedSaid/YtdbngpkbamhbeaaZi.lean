import Derived.Test.YtdbngpkbamhbeaaZg
set_option linter.unusedSimpArgs false
set_option linter.unusedVariables false
set_option linter.unusedSectionVars false
set_option maxRecDepth 20000
namespace Go.Proofs.Ytdbngpkbamhbeaa
attribute [local irreducible] QOp aL aC qL
theorem nd_sub {α : Type} [DecidableEq α] : ∀ (A L : List α), A.Nodup → (∀ x ∈ A, x ∈ L) → A.length ≤ L.length
  | [], _, _, _ => Nat.zero_le _
  | x :: r, L, h, hs => by
    rw [List.nodup_cons] at h
    have hx := hs x List.mem_cons_self
    have ih := nd_sub r (L.erase x) h.2 fun y hy => (List.mem_erase_of_ne (fun e : y = x => h.1 (e ▸ hy))).2 (hs y (List.mem_cons_of_mem _ hy))
    rw [List.length_erase_of_mem hx] at ih
    have := List.length_pos_of_mem hx
    rw [List.length_cons]; omega
variable {n : Nat} {l : List (Nat × Nat)}
theorem bs_is {P : Nat} (h : P ∈ skT (clT n l) (2 ^ n)) : P < 2 ^ n ∧ clo n l P ≠ P ∧ ∀ t ∈ skT (clT n l) (2 ^ n), t ≠ P → sub t P = true → sub (clo n l t) P = true := by
  obtain ⟨h1, h2⟩ := skT_mem.1 h
  obtain ⟨h3, h4⟩ := skO_iff.1 h2
  rw [clT_eq h1] at h3
  refine ⟨h1, h3, fun t ht hne hs => ?_⟩
  obtain ⟨h5, h6⟩ := skT_mem.1 ht
  have := h4 t (skT_mem.2 ⟨by have := sub_le hs; omega, h6⟩) hs
  rwa [clT_eq h5] at this
theorem bs_full (hR : Rls n l) {x : Nat} (hx : x < 2 ^ n) (h : ∀ t ∈ skT (clT n l) (2 ^ n), sub t x = true → sub (clo n l t) x = true) : clo n l x = x := by
  refine Classical.byContradiction fun hc => ?_
  have hm : x ∈ skT (clT n l) (2 ^ n) := by
    refine skT_mem.2 ⟨hx, skO_iff.2 ⟨by rw [clT_eq hx]; exact hc, fun t ht hs => ?_⟩⟩
    obtain ⟨h1, h2⟩ := skT_mem.1 ht
    rw [clT_eq (Nat.lt_trans h1 hx)]
    exact h t (skT_mem.2 ⟨Nat.lt_trans h1 hx, h2⟩) hs
  exact hc (sub_anti (h x hm (sub_refl x)) (clo_is hR.lt hx).sup)
theorem bs_ob (hR : Rls n l) {x : Nat} (hx : x < 2 ^ n) : clo n l x = x ↔ oba l x = true := by
  have hc := clo_is hR.lt hx
  refine ⟨fun h => ?_, fun h => ?_⟩
  · have := hc.ob; rwa [h] at this
  · exact hc.uniq ⟨sub_refl x, h, fun t h1 _ => h1⟩
theorem bs_one (hR : Rls n l) {P1 P2 : Nat} (h1 : P1 ∈ skT (clT n l) (2 ^ n)) (h2 : P2 ∈ skT (clT n l) (2 ^ n)) {r : Nat × Nat} (hr : r ∈ l) (a1 : sub r.1 P1 = true) (a2 : sub r.1 P2 = true) (b1 : sub r.2 P1 ≠ true) (b2 : sub r.2 P2 ≠ true) : P1 = P2 := by
  refine Classical.byContradiction fun hne => ?_
  obtain ⟨c1, _, d1⟩ := bs_is h1
  obtain ⟨c2, _, d2⟩ := bs_is h2
  have key : ∀ {P : Nat}, P < 2 ^ n → sub r.1 P = true → sub r.2 (clo n l P) = true := fun {P} hP ha => by
    have hc := clo_is hR.lt hP
    exact oba_iff.1 hc.ob r hr (sub_trans ha hc.sup)
  by_cases e1 : sub P1 P2 = true
  · exact b2 (sub_trans (key c1 a1) (d2 P1 h1 hne e1))
  by_cases e2 : sub P2 P1 = true
  · exact b1 (sub_trans (key c2 a2) (d1 P2 h2 (fun h => hne h.symm) e2))
  have hx : P1 &&& P2 < 2 ^ n := Nat.lt_of_le_of_lt Nat.and_le_left c1
  have hand : ∀ {a : Nat}, sub a (P1 &&& P2) = true → sub a P1 = true ∧ sub a P2 = true := fun {a} h => by
    rw [sub_and, Bool.and_eq_true] at h; exact h
  have hf := bs_full hR hx fun t ht hs => by
    obtain ⟨s1, s2⟩ := hand hs
    rw [sub_and, d1 t ht (fun h => e1 (h ▸ s2)) s1, d2 t ht (fun h => e2 (h ▸ s1)) s2]; rfl
  have ho := (bs_ob hR hx).1 hf
  have := oba_iff.1 ho r hr (by rw [sub_and, a1, a2]; rfl)
  exact b1 (hand this).1
/-- No rules that say as much are fewer. -/
theorem bs_few (hR : Rls n l) : (bsR n l).length ≤ l.length := by
  rw [bsR_len]
  have hex : ∀ P ∈ skT (clT n l) (2 ^ n), ∃ r, r ∈ l ∧ sub r.1 P = true ∧ sub r.2 P ≠ true := fun P hP => by
    obtain ⟨c, d, _⟩ := bs_is hP
    refine Classical.byContradiction fun hc => d ((bs_ob hR c).2 (oba_iff.2 fun r hr hs => ?_))
    refine Classical.byContradiction fun hq => hc ⟨r, hr, hs, hq⟩
  obtain ⟨f, hf⟩ : ∃ f : Nat → Nat × Nat, ∀ P ∈ skT (clT n l) (2 ^ n), f P ∈ l ∧ sub (f P).1 P = true ∧ sub (f P).2 P ≠ true := by
    refine ⟨fun P => if h : ∃ r, r ∈ l ∧ sub r.1 P = true ∧ sub r.2 P ≠ true then h.choose else (0, 0), fun P hP => ?_⟩
    have h := hex P hP
    dsimp only
    rw [dif_pos h]
    exact h.choose_spec
  have hnd : (skT (clT n l) (2 ^ n)).Nodup := by rw [skT_eq]; exact List.nodup_range.filter _
  have h1 : ((skT (clT n l) (2 ^ n)).map f).Nodup := by
    rw [List.Nodup, List.pairwise_map]
    refine hnd.imp_of_mem fun {a b} ha hb hne he => ?_
    obtain ⟨g1, g2, g3⟩ := hf a ha
    obtain ⟨_, g5, g6⟩ := hf b hb
    rw [← he] at g5 g6
    exact hne (bs_one hR ha hb g1 g2 g5 g3 g6)
  have h2 := nd_sub _ l h1 fun x hx => by
    obtain ⟨P, hP, rfl⟩ := List.mem_map.1 hx
    exact (hf P hP).1
  rwa [List.length_map] at h2
theorem bsR_mem {r : Nat × Nat} : r ∈ bsR n l ↔ ∃ P, P ∈ skT (clT n l) (2 ^ n) ∧ r = (P, clo n l P) := by
  unfold bsR rlP
  rw [List.mem_map]
  refine ⟨?_, ?_⟩
  · rintro ⟨P, hP, rfl⟩
    exact ⟨P, hP, by rw [clT_eq (bs_is hP).1]⟩
  · rintro ⟨P, hP, rfl⟩
    exact ⟨P, hP, by rw [clT_eq (bs_is hP).1]⟩
theorem bsR_rls (hR : Rls n l) : Rls n (bsR n l) where
  hn := hR.hn
  len := Nat.le_trans (bs_few hR) hR.len
  lt := fun r hr => by
    obtain ⟨P, hP, rfl⟩ := bsR_mem.1 hr
    exact ⟨(bs_is hP).1, clo_lt n l P⟩
/-- What the rules say the base says. -/
theorem bs_says (hR : Rls n l) {r : Nat × Nat} (hr : r ∈ l) : sub r.2 (clo n (bsR n l) r.1) = true := by
  have hB := bsR_rls hR
  have hc := clo_is hB.lt (hR.lt r hr).1
  have hx := clo_lt n (bsR n l) r.1
  have ho := (bs_ob hR hx).1 (bs_full hR hx fun t ht hs => oba_iff.1 hc.ob (t, clo n l t) (bsR_mem.2 ⟨t, ht, rfl⟩) hs)
  exact oba_iff.1 ho r hr hc.sup
/-- None of it can be left out. -/
theorem bs_needs (hR : Rls n l) {P : Nat} (hP : P ∈ skT (clT n l) (2 ^ n)) {m : List (Nat × Nat)} (hm : ∀ r ∈ m, ∃ t, t ∈ skT (clT n l) (2 ^ n) ∧ t ≠ P ∧ r = (t, clo n l t)) : sub (clo n l P) (clo n m P) = false := by
  obtain ⟨c, d, e⟩ := bs_is hP
  have hlt : ∀ r ∈ m, r.1 < 2 ^ n ∧ r.2 < 2 ^ n := fun r hr => by
    obtain ⟨t, ht, _, rfl⟩ := hm r hr
    exact ⟨(bs_is ht).1, clo_lt n l t⟩
  have h1 : clo n m P = P := (clo_is hlt c).uniq ⟨sub_refl P, oba_iff.2 fun r hr hs => by
    obtain ⟨t, ht, hne, rfl⟩ := hm r hr
    exact e t ht hne hs, fun t h _ => h⟩
  rw [h1, Bool.eq_false_iff]
  exact fun h => d (sub_anti h (clo_is hR.lt c).sup)
end Go.Proofs.Ytdbngpkbamhbeaa
