/- Ideals of orders side by side: an ideal of each (plain). -/
import Derived.Test.YtdofbddeffgneaaGy
set_option linter.unusedSimpArgs false
set_option linter.unusedVariables false
namespace Go.Proofs.Ytdofbddeffgneaa
attribute [local irreducible] QOp aL aC qL
theorem idlV_iff {n : Nat} {ns : List Nat} {s : Nat} : idl n ns s = true ↔ ∀ b, b < n → s.testBit b = true → ∀ a, (ns.getD b 0).testBit a = true → s.testBit a = true := by
  unfold idl
  simp only [List.all_eq_true, List.mem_range, Bool.or_eq_true, Bool.not_eq_true', sub_iff]
  constructor
  · intro h b hb hs
    rcases h b hb with h1 | h1
    · rw [hs] at h1; cases h1
    · exact h1
  · intro h b hb
    cases hs : s.testBit b
    · exact .inl rfl
    · exact .inr (h b hb hs)
theorem both_okB {n m : Nat} {ns ms : List Nat} (hok : okB n ns = true) (hok2 : okB m ms = true) : okB (n + m) (ofn (n + m) (bothP n ns ms false)) = true := by
  have e : ∀ a b, a < n + m → b < n + m → lt (ofn (n + m) (bothP n ns ms false)) a b = bothP n ns ms false a b := fun a b ha hb => ofn_lt _ ha hb
  have key : ∀ a b, a < n + m → b < n + m → bothP n ns ms false a b = true → (a < n ∧ b < n ∧ lt ns a b = true) ∨ (n ≤ a ∧ n ≤ b ∧ lt ms (a - n) (b - n) = true) := fun a b _ _ h => by
    unfold bothP at h
    split at h
    · rename_i hc; exact .inl ⟨hc.1, hc.2, h⟩
    · split at h
      · rename_i hc; exact .inr ⟨hc.1, hc.2, h⟩
      · cases h
  refine okB_all (ofn_vld _ _).2 fun i hi => ⟨fun j hj k hk => ?_, ?_⟩
  · cases ht : trip (ofn (n + m) (bothP n ns ms false)) i j k
    · rfl
    · simp only [trip, Bool.and_eq_true, Bool.not_eq_true'] at ht
      obtain ⟨h1, h2, h3⟩ := ht
      rw [e _ _ hj hk] at h1
      rw [e _ _ hk hi] at h2
      rw [e _ _ hj hi] at h3
      exfalso
      rcases key _ _ hj hk h1 with ⟨a1, a2, a3⟩ | ⟨a1, a2, a3⟩ <;> rcases key _ _ hk hi h2 with ⟨b1, b2, b3⟩ | ⟨b1, b2, b3⟩
      · have := okB_tr hok b2 a2 b3 a3
        unfold bothP at h3
        rw [if_pos ⟨a1, b2⟩, this] at h3
        cases h3
      · omega
      · omega
      · have := okB_tr hok2 (show i - n < m by omega) (show k - n < m by omega) b3 a3
        unfold bothP at h3
        rw [if_neg (by omega), if_pos ⟨a1, b2⟩, this] at h3
        cases h3
  · rw [e i i hi hi]
    cases h : bothP n ns ms false i i
    · rfl
    · rcases key _ _ hi hi h with ⟨a1, _, a3⟩ | ⟨a1, _, a3⟩
      · rw [okB_irr hok a1] at a3; cases a3
      · rw [okB_irr hok2 (show i - n < m by omega)] at a3; cases a3
theorem idl_both {n m : Nat} {ns ms : List Nat} (hv : Vld n ns) (hw : Vld m ms) (s v : Nat) (hs : s < 2 ^ n) : idl (n + m) (ofn (n + m) (bothP n ns ms false)) (s + v * 2 ^ n) = (idl n ns s && idl m ms v) := by
  have hz : ∀ j, (s + v * 2 ^ n).testBit j = if j < n then s.testBit j else v.testBit (j - n) := fun j => by
    rw [Nat.mul_comm, Nat.add_comm, Nat.testBit_two_pow_mul_add _ hs]
  have e : ∀ a b, a < n + m → b < n + m → ((ofn (n + m) (bothP n ns ms false)).getD b 0).testBit a = bothP n ns ms false a b := fun a b ha hb => ofn_lt _ ha hb
  have big : ∀ a b, n + m ≤ a → ((ofn (n + m) (bothP n ns ms false)).getD b 0).testBit a = false := fun a b h => Nat.testBit_lt_two_pow (Nat.lt_of_lt_of_le ((ofn_vld _ _).get b) (Nat.pow_le_pow_right (by decide) h))
  rw [Bool.eq_iff_iff, Bool.and_eq_true, idlV_iff, idlV_iff, idlV_iff]
  constructor
  · intro h
    constructor
    · intro b hb hsb a ha
      have han : a < n := lt_lt hv.2 ha
      have := h b (by omega) (by rw [hz, if_pos hb]; exact hsb) a (by rw [e a b (by omega) (by omega)]; unfold bothP; rw [if_pos ⟨han, hb⟩]; exact ha)
      rwa [hz, if_pos han] at this
    · intro b hb hsb a ha
      have ham : a < m := lt_lt hw.2 ha
      have := h (n + b) (by omega) (by rw [hz, if_neg (by omega), Nat.add_sub_cancel_left]; exact hsb) (n + a) (by
        rw [e _ _ (by omega) (by omega)]; unfold bothP
        rw [if_neg (by omega), if_pos (by omega), Nat.add_sub_cancel_left, Nat.add_sub_cancel_left]; exact ha)
      rwa [hz, if_neg (by omega), Nat.add_sub_cancel_left] at this
  · rintro ⟨h1, h2⟩ b hb hsb a ha
    have han : a < n + m := by
      rcases Nat.lt_or_ge a (n + m) with h | h
      · exact h
      · rw [big a b h] at ha; cases ha
    rw [e a b han hb] at ha
    rw [hz] at hsb ⊢
    unfold bothP at ha
    split at ha
    · rename_i hc
      rw [if_pos hc.2] at hsb
      rw [if_pos hc.1]
      exact h1 b hc.2 hsb a ha
    · split at ha
      · rename_i hc
        rw [if_neg (by omega)] at hsb ⊢
        exact h2 (b - n) (by omega) hsb (a - n) ha
      · cases ha
theorem range_mul (N : Nat) : ∀ M, List.range (M * N) = (List.range M).flatMap fun v => (List.range N).map fun s => s + v * N
  | 0 => by simp
  | M + 1 => by
    rw [Nat.succ_mul, List.range_add, range_mul N M, List.range_succ, List.flatMap_append]
    simp [Nat.add_comm]
theorem flat_filter (p : Nat → Bool) (f : Nat → List Nat) : ∀ l : List Nat, (l.filter p).flatMap f = l.flatMap fun v => if p v = true then f v else []
  | [] => rfl
  | v :: l => by
    rw [List.filter_cons, List.flatMap_cons, ← flat_filter p f l]
    split
    · rw [List.flatMap_cons]
    · rw [List.nil_append]
theorem flat_congr {f g : Nat → List Nat} (h : ∀ v, f v = g v) (l : List Nat) : l.flatMap f = l.flatMap g := by rw [show f = g from funext h]
theorem idTo_both {n m : Nat} {ns ms : List Nat} (hv : Vld n ns) (hw : Vld m ms) : idTo (n + m) (ofn (n + m) (bothP n ns ms false)) (2 ^ (n + m)) = (idTo m ms (2 ^ m)).flatMap fun v => (idTo n ns (2 ^ n)).map fun s => s + v * 2 ^ n := by
  unfold idTo
  rw [Nat.pow_add, Nat.mul_comm, range_mul, List.filter_flatMap, flat_filter]
  refine flat_congr (fun v => ?_) _
  rw [List.filter_map]
  cases hi : idl m ms v
  · rw [if_neg (by decide)]
    rw [List.filter_eq_nil_iff.2]
    · rfl
    · intro s hs
      simp only [Function.comp]
      rw [idl_both hv hw s v (List.mem_range.1 hs), hi, Bool.and_false]
      decide
  · rw [if_pos rfl]
    congr 1
    refine List.filter_congr fun s hs => ?_
    simp only [Function.comp]
    rw [idl_both hv hw s v (List.mem_range.1 hs), hi, Bool.and_true]
theorem flatV_len {α : Type} (f : Nat → List α) (c : Nat) (h : ∀ v, (f v).length = c) : ∀ l : List Nat, (l.flatMap f).length = l.length * c
  | [] => by simp
  | v :: l => by rw [List.flatMap_cons, List.length_append, h, flatV_len f c h l, List.length_cons, Nat.succ_mul, Nat.add_comm]
theorem flatV_get (f : Nat → List Nat) (c : Nat) (h : ∀ v, (f v).length = c) (hc : 0 < c) : ∀ (l : List Nat) (i : Nat), i < l.length * c → (l.flatMap f).getD i 0 = (f (l.getD (i / c) 0)).getD (i % c) 0
  | [], i, hi => by simp at hi
  | v :: l, i, hi => by
    rw [List.flatMap_cons]
    rcases Nat.lt_or_ge i c with hlt | hge
    · rw [List.getD_eq_getElem?_getD, List.getElem?_append_left (by rw [h]; exact hlt), Nat.div_eq_of_lt hlt, Nat.mod_eq_of_lt hlt]
      simp [List.getD_eq_getElem?_getD]
    · have hi2 : i - c < l.length * c := by
        rw [List.length_cons, Nat.succ_mul] at hi; omega
      have ih := flatV_get f c h hc l (i - c) hi2
      have e : i = (i - c) + c := by omega
      have e1 : i / c = (i - c) / c + 1 := by
        conv => lhs; rw [e]
        exact Nat.add_div_right _ hc
      have e2 : i % c = (i - c) % c := by
        conv => lhs; rw [e]
        exact Nat.add_mod_right _ _
      rw [List.getD_eq_getElem?_getD, List.getElem?_append_right (by rw [h]; exact hge), h, ← List.getD_eq_getElem?_getD, ih, e1, e2]
      rfl
end Go.Proofs.Ytdofbddeffgneaa
