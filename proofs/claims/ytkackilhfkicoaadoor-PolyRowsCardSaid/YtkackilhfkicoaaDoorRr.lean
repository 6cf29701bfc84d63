import Derived.Test.YtkackilhfkicoaaDoorRo
import Derived.Test.YtkackilhfkicoaaDoorGn
set_option linter.unusedSimpArgs false
set_option linter.unusedVariables false
set_option linter.unusedSectionVars false
set_option maxRecDepth 20000
namespace Go.Proofs.YtkackilhfkicoaaDoor
section
variable {n : Nat} {ns : List Nat}
theorem sumTo_idS (f : Nat → Nat) : sumTo (fun i => f ((idS n ns).getD i 0)) (idS n ns).length = sumTo (fun u => if idl n ns u = true then f u else 0) (2 ^ n) := by
  have key : ∀ m, sumTo (fun i => f (((List.range m).filter (idl n ns)).getD i 0)) ((List.range m).filter (idl n ns)).length = sumTo (fun u => if idl n ns u = true then f u else 0) m := fun m => by
    induction m with
    | zero => rfl
    | succ m ih =>
      rw [List.range_succ, List.filter_append]
      show _ = sumTo (fun u => if idl n ns u = true then f u else 0) m + (if idl n ns m = true then f m else 0)
      rw [← ih]
      cases hp : idl n ns m
      · rw [List.filter_cons, if_neg (by rw [hp]; decide), List.filter_nil, List.append_nil]
        simp
      · rw [List.filter_cons, if_pos hp, List.filter_nil, List.length_append, List.length_singleton, if_pos rfl]
        show sumTo _ _ + f _ = _
        congr 1
        · exact sumTo_congr fun i hi => by rw [List.getD_eq_getElem?_getD, List.getD_eq_getElem?_getD, List.getElem?_append_left hi]
        · rw [List.getD_eq_getElem?_getD, List.getElem?_append_right (Nat.le_refl _), Nat.sub_self]; rfl
  exact key (2 ^ n)
theorem sumTo_swR (f : Nat → Nat → Nat) (n : Nat) : ∀ m, sumTo (fun a => sumTo (fun b => f a b) n) m = sumTo (fun b => sumTo (fun a => f a b) m) n
  | 0 => (sumTo_zero fun _ _ => rfl).symm
  | m + 1 => by
    show sumTo (fun a => sumTo (fun b => f a b) n) m + sumTo (fun b => f m b) n = _
    rw [sumTo_swR f n m, ← sumTo_add]
    rfl
theorem sumTo_sglR2 {f : Nat → Nat} {b : Nat} : ∀ {n : Nat}, b < n → (∀ i, i < n → i ≠ b → f i = 0) → sumTo f n = f b
  | 0, h, _ => absurd h (Nat.not_lt_zero _)
  | n + 1, h, h0 => by
    show sumTo f n + f n = f b
    by_cases e : b = n
    · subst e
      rw [sumTo_zero fun i hi => h0 i (by omega) (by omega), Nat.zero_add]
    · rw [sumTo_sglR2 (by omega) fun i hi => h0 i (by omega), h0 n (by omega) (Ne.symm e), Nat.add_zero]
theorem pc_fullR {n : Nat} : ∀ m, m ≤ n → pcTo (2 ^ n - 1) m = m
  | 0, _ => rfl
  | m + 1, h => by rw [pc_bit, pc_fullR m (by omega), Nat.testBit_two_pow_sub_one, decide_eq_true (by omega), if_pos rfl]
/-- Points one by one, or ideals of one point more. -/
theorem one_more (hv : Vld n ns) (hok : okB n ns = true) {s : Nat} (hs : s < 2 ^ n) (hi : idl n ns s = true) (g : Nat → Nat) : sumTo (fun p => if mayO ns s p = true then g (s ||| 2 ^ p) else 0) n = sumTo (fun u => if idl n ns u = true then (if sub s u = true ∧ pcTo u n = pcTo s n + 1 then g u else 0) else 0) (2 ^ n) := by
  have hmay : ∀ p, mayO ns s p = true ↔ s.testBit p = false ∧ ∀ y, lt ns y p = true → s.testBit y = true := fun p => mayO_iff
  have hone : ∀ p, p < n → mayO ns s p = true → s ||| 2 ^ p < 2 ^ n ∧ idl n ns (s ||| 2 ^ p) = true ∧ sub s (s ||| 2 ^ p) = true ∧ pcTo (s ||| 2 ^ p) n = pcTo s n + 1 := fun p hp hm => by
    obtain ⟨m1, m2⟩ := (hmay p).1 hm
    refine ⟨Nat.or_lt_two_pow hs (Nat.pow_lt_pow_right (by decide) hp), idl_iff.2 fun b hb hbs y hy => ?_, sub_iff.2 fun i h => by rw [Nat.testBit_or, h]; rfl, ?_⟩
    · rw [Nat.testBit_or, Bool.or_eq_true] at hbs ⊢
      rcases hbs with h | h
      · exact .inl (idl_iff.1 hi b hb h y hy)
      · have e := pow_bitC.1 h
        subst e
        exact .inl (m2 y hy)
    · rw [← add_bitC m1, add_pcC m1 hp]
  have hrev : ∀ u, u < 2 ^ n → idl n ns u = true → sub s u = true → pcTo u n = pcTo s n + 1 → ∃ p, p < n ∧ mayO ns s p = true ∧ u = s ||| 2 ^ p := fun u hu hiu hsu hpc => by
    have hne : s ≠ u := fun e => by rw [e] at hpc; omega
    obtain ⟨p, hp, h1, h2, h3⟩ := low_ex hok hu hsu hne
    refine ⟨p, hp, (hmay p).2 ⟨h2, fun y hy => h3 y (bit_ltC (hv.get p) hy) hy (idl_iff.1 hiu p hp h1 y hy)⟩, ?_⟩
    have h4 : sub (s ||| 2 ^ p) u = true := sub_iff.2 fun i h => by
      rw [Nat.testBit_or, Bool.or_eq_true] at h
      rcases h with h | h
      · exact sub_iff.1 hsu i h
      · rw [pow_bitC.1 h]; exact h1
    have h5 : pcTo (s ||| 2 ^ p) n = pcTo s n + 1 := by rw [← add_bitC h2, add_pcC h2 hp]
    refine Classical.byContradiction fun hc => ?_
    have := pc_lt (Nat.or_lt_two_pow hs (Nat.pow_lt_pow_right (by decide) hp)) hu h4 (Ne.symm hc)
    omega
  have e1 : sumTo (fun p => if mayO ns s p = true then g (s ||| 2 ^ p) else 0) n = sumTo (fun p => sumTo (fun u => if mayO ns s p = true ∧ u = s ||| 2 ^ p then g u else 0) (2 ^ n)) n := sumTo_congr fun p hp => by
    cases hm : mayO ns s p
    · rw [if_neg (by decide)]
      exact (sumTo_zero fun u _ => by simp).symm
    · rw [if_pos rfl, sumTo_sglR2 (hone p hp hm).1 fun u _ hne => if_neg fun q => hne q.2, if_pos ⟨rfl, rfl⟩]
  rw [e1, sumTo_swR]
  refine sumTo_congr fun u hu => ?_
  by_cases hq : idl n ns u = true ∧ sub s u = true ∧ pcTo u n = pcTo s n + 1
  · obtain ⟨q1, q2, q3⟩ := hq
    obtain ⟨p, hp, hm, rfl⟩ := hrev u hu q1 q2 q3
    rw [q1, if_pos rfl, if_pos ⟨q2, q3⟩, sumTo_sglR2 hp fun p' hp' hne => if_neg fun q => ?_, if_pos ⟨hm, rfl⟩]
    have h1 := ((hmay p').1 q.1).1
    have h2 : (s ||| 2 ^ p).testBit p' = true := by rw [q.2, Nat.testBit_or, pow_bitC.2 rfl, Bool.or_true]
    rw [Nat.testBit_or, h1, Bool.false_or] at h2
    exact hne (pow_bitC.1 h2)
  · have e2 : (if idl n ns u = true then (if sub s u = true ∧ pcTo u n = pcTo s n + 1 then g u else 0) else 0) = 0 := by
      split
      · rename_i h1
        rw [if_neg fun h2 => hq ⟨h1, h2.1, h2.2⟩]
      · rfl
    rw [e2]
    refine sumTo_zero fun p hp => if_neg fun q => hq ?_
    obtain ⟨_, a, b, c⟩ := hone p hp q.1
    rw [q.2]
    exact ⟨a, b, c⟩
def lvN (n : Nat) (ns : List Nat) (k : Nat) : Nat := sumTo (fun j => if pcTo ((idS n ns).getD j 0) n = k then wI (idS n ns) neB k j * cnt n (mayO ns) (n - k) ((idS n ns).getD j 0) else 0) (idS n ns).length
theorem lvN_step (hv : Vld n ns) (hok : okB n ns = true) {k : Nat} (hk : k < n) : lvN n ns k = lvN n ns (k + 1) := by
  have hF := idS_fam hv
  have hm : ∀ i, i < (idS n ns).length → (idS n ns).getD i 0 < 2 ^ n ∧ idl n ns ((idS n ns).getD i 0) = true := fun i hi => idS_mem.1 (get_memW hi)
  obtain ⟨f, hf⟩ : ∃ f, n - k = f + 1 := ⟨n - k - 1, by omega⟩
  have hf2 : n - (k + 1) = f := by omega
  unfold lvN
  rw [hf, hf2]
  have e1 : sumTo (fun j => if pcTo ((idS n ns).getD j 0) n = k then wI (idS n ns) neB k j * cnt n (mayO ns) (f + 1) ((idS n ns).getD j 0) else 0) (idS n ns).length = sumTo (fun j => sumTo (fun i => if pcTo ((idS n ns).getD j 0) n = k ∧ pcTo ((idS n ns).getD i 0) n = k + 1 ∧ sub ((idS n ns).getD j 0) ((idS n ns).getD i 0) = true then wI (idS n ns) neB k j * cnt n (mayO ns) f ((idS n ns).getD i 0) else 0) (idS n ns).length) (idS n ns).length := sumTo_congr fun j hj => by
    by_cases hp : pcTo ((idS n ns).getD j 0) n = k
    · rw [if_pos hp]
      show wI (idS n ns) neB k j * sumTo (fun p => if mayO ns ((idS n ns).getD j 0) p = true then cnt n (mayO ns) f ((idS n ns).getD j 0 ||| 2 ^ p) else 0) n = _
      rw [one_more hv hok (hm j hj).1 (hm j hj).2 (fun u => cnt n (mayO ns) f u), ← sumTo_idS (fun u => if sub ((idS n ns).getD j 0) u = true ∧ pcTo u n = pcTo ((idS n ns).getD j 0) n + 1 then cnt n (mayO ns) f u else 0), ← sumTo_mul]
      refine sumTo_congr fun i _ => ?_
      rw [hp]
      by_cases q : sub ((idS n ns).getD j 0) ((idS n ns).getD i 0) = true ∧ pcTo ((idS n ns).getD i 0) n = k + 1
      · rw [if_pos q, if_pos ⟨rfl, q.2, q.1⟩]
      · rw [if_neg q, if_neg fun q' => q ⟨q'.2.2, q'.2.1⟩, Nat.mul_zero]
    · rw [if_neg hp]
      exact (sumTo_zero fun i _ => if_neg fun q => hp q.1).symm
  rw [e1, sumTo_swR]
  refine sumTo_congr fun i hi => ?_
  by_cases hp : pcTo ((idS n ns).getD i 0) n = k + 1
  · rw [if_pos hp, wI_s, Nat.mul_comm, ← sumTo_mul]
    refine sumTo_congr fun j hj => ?_
    by_cases hft : ftB (idS n ns) neB j i = true
    · obtain ⟨a, b⟩ := ft_ne hft
      rw [if_pos hft]
      by_cases hpj : pcTo ((idS n ns).getD j 0) n = k
      · rw [if_pos ⟨hpj, hp, a⟩, Nat.mul_comm]
      · have := pc_lt (hm j hj).1 (hm i hi).1 a b
        rw [if_neg fun q => hpj q.1, wI_none hF k j hj (by omega), Nat.mul_zero]
    · rw [if_neg hft, Nat.mul_zero, if_neg]
      rintro ⟨q1, _, q2⟩
      refine hft ?_
      unfold ftB neB
      rw [q2, Bool.true_and, decide_eq_true_eq]
      intro e
      rw [e] at q1; omega
  · rw [if_neg hp]
    exact sumTo_zero fun j _ => if_neg fun q => hp q.2.1
theorem rows_on (hv : Vld n ns) (hok : okB n ns = true) : onT (idS n ns) n = cnt n (mayO ns) n 0 := by
  have hF := idS_fam hv
  have hpos := hF.pos
  have h0 : lvN n ns 0 = cnt n (mayO ns) n 0 := by
    unfold lvN
    rw [sumTo_sglR2 (b := 0) hpos fun j hj hne => ?_]
    · rw [hF.low, if_pos pc_zeroC]
      unfold wI
      simp
    · unfold wI
      rw [if_neg hne]; simp
  have hn : lvN n ns n = onT (idS n ns) n := by
    unfold lvN
    rw [sumTo_sglR2 (b := (idS n ns).length - 1) (by omega) fun j hj hne => if_neg fun q => ?_]
    · rw [hF.all, if_pos (pc_fullR n (Nat.le_refl n)), Nat.sub_self]
      show _ * 1 = _
      rw [Nat.mul_one]; rfl
    · have h1 : (idS n ns).getD j 0 ≠ (idS n ns).getD ((idS n ns).length - 1) 0 := fun e => hne (hF.inj hj (by omega) e)
      have h2 : sub ((idS n ns).getD j 0) ((idS n ns).getD ((idS n ns).length - 1) 0) = true := by
        rw [hF.all]
        exact sub_iff.2 fun i hi => by
          rw [Nat.testBit_two_pow_sub_one, decide_eq_true_eq]
          exact bit_ltC (hF.lt j hj) hi
      have := pc_lt (hF.lt j hj) (hF.lt _ (by omega)) h2 h1
      have := pcTo_le ((idS n ns).getD ((idS n ns).length - 1) 0) n
      omega
  have hall : ∀ k, k ≤ n → lvN n ns k = lvN n ns 0 := fun k => by
    induction k with
    | zero => intro _; rfl
    | succ k ih => intro hk; rw [← lvN_step hv hok (by omega), ih (by omega)]
  rw [← hn, hall n (Nat.le_refl n), h0]
theorem on_zero (hv : Vld n ns) : onT (idS n ns) 0 = if n = 0 then 1 else 0 := by
  have hF := idS_fam hv
  have hpos := hF.pos
  unfold onT wI
  by_cases e : n = 0
  · subst e
    have h1 : (idS 0 ns).getD ((idS 0 ns).length - 1) 0 < 1 := hF.lt ((idS 0 ns).length - 1) (by omega)
    have h2 : (idS 0 ns).length - 1 = 0 := by
      refine Classical.byContradiction fun h => ?_
      have := hF.rise 0 ((idS 0 ns).length - 1) (by omega) (by omega)
      omega
    rw [if_pos h2, if_pos rfl]
  · rw [if_neg e, if_neg]
    intro h
    have h1 := hF.all
    rw [h, hF.low] at h1
    have : 2 ^ 1 ≤ 2 ^ n := Nat.pow_le_pow_right (by decide) (by omega)
    omega
end
end Go.Proofs.YtkackilhfkicoaaDoor
