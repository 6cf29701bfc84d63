import Derived.Test.YtdieojemgkfklaaDoorKf
import Derived.Test.YtdieojemgkfklaaDoorJn
set_option linter.unusedSimpArgs false
set_option linter.unusedVariables false
set_option maxRecDepth 20000
namespace Go.Proofs.YtdieojemgkfklaaDoor
attribute [local irreducible] QOp aL aC qL
theorem bnd_bit {n : Nat} {ns : List Nat} {s : Nat} {up : Bool} {j : Nat} : (bs (bndP n ns s up) n).testBit j = true ↔ j < n ∧ ∀ k, k < n → s.testBit k = true → (if up = true then upB ns k j else upB ns j k) = true := by
  rw [bs_bit, Bool.and_eq_true, decide_eq_true_eq]
  unfold bndP
  rw [List.all_eq_true]
  refine and_congr_right fun _ => ⟨fun h k hk hb => ?_, fun h k hk => ?_⟩
  · have := h k (List.mem_range.2 hk)
    rwa [hb, Bool.not_true, Bool.false_or] at this
  · cases hb : s.testBit k
    · rfl
    · rw [Bool.not_true, Bool.false_or]; exact h k (List.mem_range.1 hk) hb
theorem bit_in {n s k : Nat} (hs : s < 2 ^ n) (h : s.testBit k = true) : k < n := by
  rcases Nat.lt_or_ge k n with h1 | h1
  · exact h1
  · rw [Nat.testBit_lt_two_pow (Nat.lt_of_lt_of_le hs (Nat.pow_le_pow_right (n := 2) (by decide) h1))] at h; cases h
theorem cut_lt (n : Nat) (ns : List Nat) (s : Nat) : cutC n ns s < 2 ^ n := bs_lt _ _
theorem cut_up {n : Nat} {ns : List Nat} {s : Nat} (hs : s < 2 ^ n) : sub s (cutC n ns s) = true := sub_iff.2 fun i hi => by
  unfold cutC
  rw [bnd_bit]
  refine ⟨bit_in hs hi, fun k hk hb => ?_⟩
  exact (bnd_bit.1 hb).2 i (bit_in hs hi) hi
theorem up_anti {n : Nat} {ns : List Nat} {a b : Nat} {up : Bool} (h : sub a b = true) : sub (bs (bndP n ns b up) n) (bs (bndP n ns a up) n) = true := sub_iff.2 fun i hi => by
  rw [bnd_bit] at hi ⊢
  exact ⟨hi.1, fun k hk hb => hi.2 k hk (sub_iff.1 h k hb)⟩
theorem cut_mono {n : Nat} {ns : List Nat} {a b : Nat} (h : sub a b = true) : sub (cutC n ns a) (cutC n ns b) = true := up_anti (up_anti h)
theorem low_up {n : Nat} {ns : List Nat} {q : Nat} (hq : q < 2 ^ n) : sub q (bs (bndP n ns (bs (bndP n ns q false) n) true) n) = true := sub_iff.2 fun i hi => by
  rw [bnd_bit]
  exact ⟨bit_in hq hi, fun k hk hb => (bnd_bit.1 hb).2 i (bit_in hq hi) hi⟩
theorem sub_trK {a b c : Nat} (h1 : sub a b = true) (h2 : sub b c = true) : sub a c = true := sub_iff.2 fun i hi => sub_iff.1 h2 i (sub_iff.1 h1 i hi)
theorem cut_idem {n : Nat} {ns : List Nat} {s : Nat} : cutC n ns (cutC n ns s) = cutC n ns s :=
  sub_eq (up_anti (low_up (bs_lt _ _))) (cut_up (cut_lt n ns s))
theorem cut_StJ (n : Nat) (ns : List Nat) : StJ (cutT n ns (2 ^ n)) fun a b => cutC n ns (a ||| b) := by
  have hg : ∀ i, i < (cutT n ns (2 ^ n)).length → (cutT n ns (2 ^ n)).getD i 0 < 2 ^ n ∧ cutC n ns ((cutT n ns (2 ^ n)).getD i 0) = (cutT n ns (2 ^ n)).getD i 0 := fun i hi => by
    have := rng_get (fun s => decide (cutC n ns s = s)) (2 ^ n) hi
    exact ⟨this.1, of_decide_eq_true this.2⟩
  have ha : ∀ x, x < 2 ^ n → cutC n ns x = x → ∃ k, k < (cutT n ns (2 ^ n)).length ∧ (cutT n ns (2 ^ n)).getD k 0 = x := fun x hx hc => rng_at (p := fun s => decide (cutC n ns s = s)) hx (decide_eq_true hc)
  refine ⟨fun i j hi hj h => rng_one _ _ hi hj h, fun i j hi hj => ?_, fun i j hi hj => ha _ (cut_lt n ns _) cut_idem, fun i j z hi hj hz => ?_⟩
  · obtain ⟨h1, h2⟩ := hg i hi
    obtain ⟨h3, h4⟩ := hg j hj
    have hlt := Nat.lt_of_le_of_lt (Nat.and_le_left (n := (cutT n ns (2 ^ n)).getD i 0) (m := (cutT n ns (2 ^ n)).getD j 0)) h1
    refine ha _ hlt (sub_eq (sub_land.2 ⟨?_, ?_⟩) (cut_up hlt))
    · have := cut_mono (n := n) (ns := ns) (sub_land.1 (sub_rfl ((cutT n ns (2 ^ n)).getD i 0 &&& (cutT n ns (2 ^ n)).getD j 0))).1
      rwa [h2] at this
    · have := cut_mono (n := n) (ns := ns) (sub_land.1 (sub_rfl ((cutT n ns (2 ^ n)).getD i 0 &&& (cutT n ns (2 ^ n)).getD j 0))).2
      rwa [h4] at this
  · obtain ⟨h1, _⟩ := hg i hi
    obtain ⟨h3, _⟩ := hg j hj
    obtain ⟨_, h6⟩ := hg z hz
    have hlt := Nat.or_lt_two_pow h1 h3
    constructor
    · intro h
      exact sub_lor.1 (sub_trK (cut_up hlt) h)
    · intro h
      have := cut_mono (n := n) (ns := ns) (sub_lor.2 h)
      rwa [h6] at this
end Go.Proofs.YtdieojemgkfklaaDoor
