/- STANLEY: numbers of maps below nought count the strict maps (plain). -/
import Derived.Test.YtkackilhfkicoaaDoorRn
set_option linter.unusedSimpArgs false
set_option linter.unusedVariables false
set_option linter.unusedSectionVars false
set_option maxRecDepth 20000
namespace Go.Proofs.YtkackilhfkicoaaDoor
theorem sumI_addR (f : Nat → Int) (m : Nat) : ∀ k, sumI f (m + k) = sumI f m + sumI (fun i => f (m + i)) k
  | 0 => (Int.add_zero _).symm
  | k + 1 => by
    show sumI f (m + k) + f (m + k) = sumI f m + (sumI (fun i => f (m + i)) k + f (m + k))
    rw [sumI_addR f m k]; omega
theorem xor_bit (s x i : Nat) : (s ^^^ 2 ^ x).testBit i = if i = x then !s.testBit i else s.testBit i := by
  rw [Nat.testBit_xor, Nat.testBit_two_pow]
  by_cases e : i = x
  · subst e; simp
  · rw [if_neg e, decide_eq_false (Ne.symm e)]; simp
theorem xor_hi {n s : Nat} (hs : s < 2 ^ n) : s ^^^ 2 ^ n = 2 ^ n + s := Nat.eq_of_testBit_eq fun i => by
  rw [xor_bit]
  rcases Nat.lt_trichotomy i n with h | h | h
  · rw [if_neg (by omega), testBit_hi hs (by omega), if_neg (by omega)]
  · subst h
    rw [if_pos rfl, testBit_hi hs (Nat.le_refl _), if_pos rfl, Nat.testBit_lt_two_pow hs]; rfl
  · rw [if_neg (by omega), Nat.testBit_lt_two_pow (Nat.lt_of_lt_of_le hs (Nat.pow_le_pow_right (n := 2) (by decide) (by omega))), Nat.testBit_lt_two_pow]
    have h1 : 2 ^ (n + 1) ≤ 2 ^ i := Nat.pow_le_pow_right (by decide) (by omega)
    rw [Nat.pow_succ] at h1
    omega
theorem xor_lo {n s x : Nat} (hs : s < 2 ^ n) (hx : x < n) : (2 ^ n + s) ^^^ 2 ^ x = 2 ^ n + (s ^^^ 2 ^ x) := by
  have h1 : s ^^^ 2 ^ x < 2 ^ n := Nat.xor_lt_two_pow hs (Nat.pow_lt_pow_right (by decide) hx)
  rw [← xor_hi hs, ← xor_hi h1, Nat.xor_assoc, Nat.xor_assoc, Nat.xor_comm (2 ^ n)]
theorem sumI_flip (g : Nat → Int) : ∀ (n x : Nat), x < n → sumI (fun s => g (s ^^^ 2 ^ x)) (2 ^ n) = sumI g (2 ^ n)
  | 0, x, h => absurd h (Nat.not_lt_zero _)
  | n + 1, x, h => by
    rw [Nat.pow_succ, Nat.mul_two, sumI_addR, sumI_addR]
    by_cases e : x = n
    · subst e
      rw [Int.add_comm]
      congr 1
      · refine sumI_congr fun s hs => ?_
        rw [← xor_hi hs, Nat.xor_assoc, Nat.xor_self, Nat.xor_zero]
      · exact sumI_congr fun s hs => by rw [xor_hi hs]
    · rw [sumI_flip g n x (by omega)]
      congr 1
      rw [← sumI_flip (fun i => g (2 ^ n + i)) n x (by omega)]
      exact sumI_congr fun s hs => by rw [xor_lo hs (by omega)]
def sgM (k : Nat) : Int := if k % 2 = 1 then -1 else 1
theorem sgM_s (k : Nat) : sgM (k + 1) = -sgM k := by
  unfold sgM
  by_cases h : k % 2 = 1
  · rw [if_pos h, if_neg (by omega)]; rfl
  · rw [if_neg h, if_pos (by omega)]
theorem sgM_xor {n s x : Nat} (hx : x < n) : sgM (pcTo (s ^^^ 2 ^ x) n) = -sgM (pcTo s n) := by
  cases hb : s.testBit x
  · have h1 : s ^^^ 2 ^ x = s + 2 ^ x := by
      rw [add_bitC hb]
      exact Nat.eq_of_testBit_eq fun i => by
        rw [xor_bit, Nat.testBit_or, Nat.testBit_two_pow]
        by_cases e : i = x
        · subst e; rw [if_pos rfl, hb]; simp
        · rw [if_neg e, decide_eq_false (Ne.symm e)]; simp
    rw [h1, add_pcC hb hx, sgM_s]
  · obtain ⟨t, a1, a2, a3⟩ := sub_exC hb
    have h1 : s ^^^ 2 ^ x = t := Nat.eq_of_testBit_eq fun i => by
      rw [xor_bit]
      by_cases e : i = x
      · subst e; rw [if_pos rfl, hb, a1]; rfl
      · rw [if_neg e]
        cases hti : t.testBit i
        · cases hsi : s.testBit i
          · rfl
          · rw [(a3 i).2 ⟨hsi, e⟩] at hti; cases hti
        · exact ((a3 i).1 hti).1
    rw [h1, ← a2, add_pcC a1 hx, sgM_s]; omega
section
variable {n : Nat} {ns : List Nat}
theorem idl_iff {s : Nat} : idl n ns s = true ↔ ∀ b, b < n → s.testBit b = true → ∀ y, lt ns y b = true → s.testBit y = true := by
  unfold idl
  rw [List.all_eq_true]
  constructor
  · intro h b hb h1 y hy
    have := h b (List.mem_range.2 hb)
    rw [h1, Bool.not_true, Bool.false_or] at this
    exact sub_iff.1 this y hy
  · intro h b hb
    cases h1 : s.testBit b
    · rfl
    · rw [Bool.not_true, Bool.false_or]
      exact sub_iff.2 fun y hy => h b (List.mem_range.1 hb) h1 y hy
theorem stO_ord' (hok : okB n ns = true) : StO n (lt ns) := ⟨fun i hi => okB_irr hok hi, fun i j k hi hj hk h1 h2 => okB_tr hok hk hj h2 h1⟩
/-- A lowest point of what one set has more than another one. -/
theorem low_ex (hok : okB n ns = true) {s t : Nat} (ht : t < 2 ^ n) (h : sub s t = true) (hne : s ≠ t) : ∃ x, x < n ∧ t.testBit x = true ∧ s.testBit x = false ∧ ∀ y, y < n → lt ns y x = true → t.testBit y = true → s.testBit y = true := by
  obtain ⟨x0, hx0⟩ : ∃ x, s.testBit x = false ∧ t.testBit x = true := by
    refine Classical.byContradiction fun hno => hne (Nat.eq_of_testBit_eq fun i => ?_)
    cases hai : s.testBit i
    · cases hbi : t.testBit i
      · rfl
      · exact absurd ⟨i, hai, hbi⟩ hno
    · exact (sub_iff.1 h i hai).symm
  have go : ∀ r x, x < n → rkL n (lt ns) x ≤ r → s.testBit x = false → t.testBit x = true → ∃ x, x < n ∧ t.testBit x = true ∧ s.testBit x = false ∧ ∀ y, y < n → lt ns y x = true → t.testBit y = true → s.testBit y = true := by
    intro r
    induction r with
    | zero =>
      intro x hx hr h1 h2
      refine ⟨x, hx, h2, h1, fun y hy hl _ => ?_⟩
      have := rkL_lt (stO_ord' hok) hy hx hl; omega
    | succ r ih =>
      intro x hx hr h1 h2
      by_cases hq : ∃ y, y < n ∧ lt ns y x = true ∧ t.testBit y = true ∧ s.testBit y = false
      · obtain ⟨y, hy, hl, h3, h4⟩ := hq
        have := rkL_lt (stO_ord' hok) hy hx hl
        exact ih y hy (by omega) h4 h3
      · refine ⟨x, hx, h2, h1, fun y hy hl h3 => ?_⟩
        cases h4 : s.testBit y
        · exact absurd ⟨y, hy, hl, h3, h4⟩ hq
        · rfl
  exact go _ x0 (bit_ltC ht hx0.2) (Nat.le_refl _) hx0.1 hx0.2
/-- Between two ideals, by antichains from the lower one. -/
def cdM (n : Nat) (ns : List Nat) (s t u : Nat) : Bool := idl n ns u && sub s u && sub u t && atN n ns (ndiff u s)
theorem cdM_iff {s t u : Nat} : cdM n ns s t u = true ↔ idl n ns u = true ∧ sub s u = true ∧ sub u t = true ∧ atN n ns (ndiff u s) = true := by
  unfold cdM; simp only [Bool.and_eq_true, and_assoc]
theorem atN_nd {u s : Nat} : atN n ns (ndiff u s) = true ↔ ∀ i, i < n → ∀ k, k < n → u.testBit i = true → s.testBit i = false → u.testBit k = true → s.testBit k = false → lt ns i k = false := by
  rw [atN_iff]
  simp only [testBit_ndiff, Bool.and_eq_true, Bool.not_eq_true']
  exact ⟨fun h i hi k hk a b c d => h i hi k hk ⟨a, b⟩ ⟨c, d⟩, fun h i hi k hk a b => h i hi k hk a.1 a.2 b.1 b.2⟩
theorem cdM_flip (hok : okB n ns = true) {s t x : Nat} (hs : idl n ns s = true) (ht : idl n ns t = true) (hx : x < n) (hxt : t.testBit x = true) (hxs : s.testBit x = false) (hlow : ∀ y, y < n → lt ns y x = true → t.testBit y = true → s.testBit y = true) (hvld : ∀ y b, lt ns y b = true → y < n) {u : Nat} (hu : cdM n ns s t u = true) : cdM n ns s t (u ^^^ 2 ^ x) = true := by
  obtain ⟨h1, h2, h3, h4⟩ := cdM_iff.1 hu
  have b1 := idl_iff.1 h1
  have b2 := sub_iff.1 h2
  have b3 := sub_iff.1 h3
  have b4 := atN_nd.1 h4
  have bs' := idl_iff.1 hs
  have bt := idl_iff.1 ht
  have hv : ∀ i, (u ^^^ 2 ^ x).testBit i = true ↔ (if i = x then u.testBit i = false else u.testBit i = true) := fun i => by
    rw [xor_bit]; split <;> simp
  cases hux : u.testBit x
  · -- the point comes in
    have hv1 : ∀ i, (u ^^^ 2 ^ x).testBit i = true ↔ i = x ∨ u.testBit i = true := fun i => by
      rw [hv]
      by_cases e : i = x
      · subst e; rw [if_pos rfl]; simp [hux]
      · rw [if_neg e]; simp [e]
    refine cdM_iff.2 ⟨idl_iff.2 fun b hb hbv y hy => ?_, sub_iff.2 fun i hi => (hv1 i).2 (.inr (b2 i hi)), sub_iff.2 fun i hi => ?_, atN_nd.2 fun i hi k hk a1 a2 a3 a4 => ?_⟩
    · rcases (hv1 b).1 hbv with e | e
      · subst e
        exact (hv1 y).2 (.inr (b2 y (hlow y (hvld y b hy) hy (bt b hb hxt y hy))))
      · exact (hv1 y).2 (.inr (b1 b hb e y hy))
    · rcases (hv1 i).1 hi with e | e
      · subst e; exact hxt
      · exact b3 i e
    · rcases (hv1 i).1 a1 with e | e
      · subst e
        rcases (hv1 k).1 a3 with e2 | e2
        · subst e2; exact okB_irr hok hi
        · cases hl : lt ns i k
          · rfl
          · have := b1 k hk e2 i hl
            rw [hux] at this; cases this
      · rcases (hv1 k).1 a3 with e2 | e2
        · subst e2
          cases hl : lt ns i k
          · rfl
          · have := hlow i hi hl (b3 i e)
            rw [a2] at this; cases this
        · exact b4 i hi k hk e a2 e2 a4
  · -- the point goes
    have hv1 : ∀ i, (u ^^^ 2 ^ x).testBit i = true ↔ i ≠ x ∧ u.testBit i = true := fun i => by
      rw [hv]
      by_cases e : i = x
      · subst e; rw [if_pos rfl]; simp [hux]
      · rw [if_neg e]; simp [e]
    refine cdM_iff.2 ⟨idl_iff.2 fun b hb hbv y hy => ?_, sub_iff.2 fun i hi => (hv1 i).2 ⟨fun e => (by rw [e, hxs] at hi; cases hi), b2 i hi⟩, sub_iff.2 fun i hi => b3 i ((hv1 i).1 hi).2, atN_nd.2 fun i hi k hk a1 a2 a3 a4 => b4 i hi k hk ((hv1 i).1 a1).2 a2 ((hv1 k).1 a3).2 a4⟩
    obtain ⟨c1, c2⟩ := (hv1 b).1 hbv
    refine (hv1 y).2 ⟨fun e => ?_, b1 b hb c2 y hy⟩
    subst e
    cases hsb : s.testBit b
    · rw [b4 y hx b hb hux hxs c2 hsb] at hy; cases hy
    · rw [bs' b hb hsb y hy] at hxs; cases hxs
theorem cd_sum (hv : Vld n ns) (hok : okB n ns = true) {s t : Nat} (ht2 : t < 2 ^ n) (hs : idl n ns s = true) (ht : idl n ns t = true) (h : sub s t = true) (hne : s ≠ t) : sumI (fun u => if cdM n ns s t u = true then sgM (pcTo u n) else 0) (2 ^ n) = 0 := by
  obtain ⟨x, hx, hxt, hxs, hlow⟩ := low_ex hok ht2 h hne
  have hvld : ∀ y b, lt ns y b = true → y < n := fun y b hl => bit_ltC (hv.get b) hl
  have h1 := sumI_flip (fun u => if cdM n ns s t u = true then sgM (pcTo u n) else 0) n x hx
  have h2 : sumI (fun u => if cdM n ns s t (u ^^^ 2 ^ x) = true then sgM (pcTo (u ^^^ 2 ^ x) n) else 0) (2 ^ n) = sumI (fun u => -(if cdM n ns s t u = true then sgM (pcTo u n) else 0)) (2 ^ n) := sumI_congr fun u _ => by
    have e : cdM n ns s t (u ^^^ 2 ^ x) = cdM n ns s t u := by
      cases hc : cdM n ns s t u
      · cases hc2 : cdM n ns s t (u ^^^ 2 ^ x)
        · rfl
        · have := cdM_flip hok hs ht hx hxt hxs hlow hvld hc2
          rw [Nat.xor_assoc, Nat.xor_self, Nat.xor_zero, hc] at this; cases this
      · exact cdM_flip hok hs ht hx hxt hxs hlow hvld hc
    rw [e, sgM_xor hx]
    split <;> simp
  rw [h2, sumI_neg] at h1
  omega
/-- A sum over the ideals, one by one. -/
theorem sumI_idS (f : Nat → Int) : sumI (fun i => f ((idS n ns).getD i 0)) (idS n ns).length = sumI (fun u => if idl n ns u = true then f u else 0) (2 ^ n) := by
  have key : ∀ m, sumI (fun i => f (((List.range m).filter (idl n ns)).getD i 0)) ((List.range m).filter (idl n ns)).length = sumI (fun u => if idl n ns u = true then f u else 0) m := fun m => by
    induction m with
    | zero => rfl
    | succ m ih =>
      rw [List.range_succ, List.filter_append, sumI_s, ← ih]
      cases hp : idl n ns m
      · rw [List.filter_cons, if_neg (by rw [hp]; decide), List.filter_nil, List.append_nil]
        simp
      · rw [List.filter_cons, if_pos hp, List.filter_nil, List.length_append, List.length_singleton, sumI_s, if_pos rfl]
        congr 1
        · exact sumI_congr fun i hi => by rw [List.getD_eq_getElem?_getD, List.getD_eq_getElem?_getD, List.getElem?_append_left hi]
        · rw [List.getD_eq_getElem?_getD, List.getElem?_append_right (Nat.le_refl _), Nat.sub_self]; rfl
  exact key (2 ^ n)
def uI (n : Nat) (ns : List Nat) (m j : Nat) : Int := sgM (pcTo ((idS n ns).getD j 0) n) * (wI (idS n ns) (stW n ns) m j : Nat)
theorem uI_step (hv : Vld n ns) (hok : okB n ns = true) (m : Nat) {j : Nat} (hj : j < (idS n ns).length) : uI n ns (m + 1) j + inI (idS n ns) (uI n ns (m + 1)) j = uI n ns m j := by
  have hF := idS_fam hv
  have hm : ∀ i, i < (idS n ns).length → (idS n ns).getD i 0 < 2 ^ n ∧ idl n ns ((idS n ns).getD i 0) = true := fun i hi => idS_mem.1 (get_memW hi)
  -- all within the j-th
  have e1 : uI n ns (m + 1) j + inI (idS n ns) (uI n ns (m + 1)) j = sumI (fun i => if sub ((idS n ns).getD i 0) ((idS n ns).getD j 0) = true then uI n ns (m + 1) i else 0) (idS n ns).length := by
    rw [sumI_out hj, if_pos (sub_rflW _), Int.add_comm]
    congr 1
    refine sumI_congr fun i hi => ?_
    by_cases e : i = j
    · subst e; rw [if_pos rfl, if_neg fun h => (ft_ne h).2 rfl]
    · rw [if_neg e]
      have hne : (idS n ns).getD i 0 ≠ (idS n ns).getD j 0 := fun q => e (hF.inj hi hj q)
      have e2 : ftB (idS n ns) neB i j = sub ((idS n ns).getD i 0) ((idS n ns).getD j 0) := by
        unfold ftB neB
        rw [decide_eq_true hne, Bool.and_true]
      rw [e2]
  rw [e1]
  have e3 : sumI (fun i => if sub ((idS n ns).getD i 0) ((idS n ns).getD j 0) = true then uI n ns (m + 1) i else 0) (idS n ns).length = sumI (fun i => sumI (fun h => (wI (idS n ns) (stW n ns) m h : Int) * if sub ((idS n ns).getD h 0) ((idS n ns).getD i 0) = true ∧ sub ((idS n ns).getD i 0) ((idS n ns).getD j 0) = true ∧ atN n ns (ndiff ((idS n ns).getD i 0) ((idS n ns).getD h 0)) = true then sgM (pcTo ((idS n ns).getD i 0) n) else 0) (idS n ns).length) (idS n ns).length := sumI_congr fun i hi => by
    unfold uI
    rw [wI_s, sumTo_int]
    split
    · rename_i hs
      rw [← sumI_mulL]
      refine sumI_congr fun h hh => ?_
      unfold ftB stW
      cases h1 : sub ((idS n ns).getD h 0) ((idS n ns).getD i 0)
      · simp
      · cases h2 : atN n ns (ndiff ((idS n ns).getD i 0) ((idS n ns).getD h 0))
        · simp
        · simp only [Bool.and_self, if_true, hs, true_and, and_self]
          exact Int.mul_comm _ _
    · rename_i hs
      exact (sumI_zero fun h hh => by rw [if_neg fun q => hs q.2.1, Int.mul_zero]).symm
  rw [e3, sumI_sw]
  have e4 : ∀ h, h < (idS n ns).length → sumI (fun i => (wI (idS n ns) (stW n ns) m h : Int) * if sub ((idS n ns).getD h 0) ((idS n ns).getD i 0) = true ∧ sub ((idS n ns).getD i 0) ((idS n ns).getD j 0) = true ∧ atN n ns (ndiff ((idS n ns).getD i 0) ((idS n ns).getD h 0)) = true then sgM (pcTo ((idS n ns).getD i 0) n) else 0) (idS n ns).length = if h = j then uI n ns m j else 0 := fun h hh => by
    rw [sumI_mulL]
    by_cases e : h = j
    · subst e
      rw [if_pos rfl, sumI_sgl hh fun i hi hne => ?_]
      · rw [if_pos ⟨sub_rflW _, sub_rflW _, atN_nd.2 fun i _ k _ a b _ _ => by rw [a] at b; cases b⟩]
        exact Int.mul_comm _ _
      · rw [if_neg fun q => hne (hF.inj hi hh (sub_asW q.2.1 q.1))]
    · rw [if_neg e]
      have hne : (idS n ns).getD h 0 ≠ (idS n ns).getD j 0 := fun q => e (hF.inj hh hj q)
      cases hs : sub ((idS n ns).getD h 0) ((idS n ns).getD j 0)
      · rw [sumI_zero fun i hi => if_neg fun q => ?_, Int.mul_zero]
        rw [sub_trW q.1 q.2.1] at hs; cases hs
      · have h0 := cd_sum hv hok (hm j hj).1 (hm h hh).2 (hm j hj).2 hs hne
        have h1 := sumI_idS (n := n) (ns := ns) (fun u => if sub ((idS n ns).getD h 0) u = true ∧ sub u ((idS n ns).getD j 0) = true ∧ atN n ns (ndiff u ((idS n ns).getD h 0)) = true then sgM (pcTo u n) else 0)
        rw [h1]
        rw [sumI_congr (g := fun u => if cdM n ns ((idS n ns).getD h 0) ((idS n ns).getD j 0) u = true then sgM (pcTo u n) else 0) fun u _ => ?_, h0, Int.mul_zero]
        cases hi : idl n ns u
        · rw [if_neg (by decide), if_neg]
          intro q
          rw [(cdM_iff.1 q).1] at hi; cases hi
        · rw [if_pos rfl]
          by_cases q : sub ((idS n ns).getD h 0) u = true ∧ sub u ((idS n ns).getD j 0) = true ∧ atN n ns (ndiff u ((idS n ns).getD h 0)) = true
          · rw [if_pos q, if_pos (cdM_iff.2 ⟨hi, q.1, q.2.1, q.2.2⟩)]
          · rw [if_neg q, if_neg fun q' => q (cdM_iff.1 q').2]
  rw [sumI_congr e4, sumI_sgl hj fun h _ hne => if_neg hne, if_pos rfl]
/-- STANLEY. -/
theorem stanley (hv : Vld n ns) (hok : okB n ns = true) (hn : n ≤ 10) : ∀ (m : Nat), m ≤ 20 → ∀ j, j < (idS n ns).length → vI (idS n ns) (-(m : Int)) (n + 1) j = uI n ns m j
  | 0, _, j, hj => by
    have hF := idS_fam hv
    show vI (idS n ns) 0 (n + 1) j = _
    rw [vI_zero]
    unfold uI wI
    by_cases e : j = 0
    · subst e
      rw [if_pos rfl, hF.low, pc_zeroC]; rfl
    · rw [if_neg e]; simp
  | m + 1, hm, j, hj => by
    have hF := idS_fam hv
    have ih := stanley hv hok hn m (by omega)
    have go : ∀ d j, j ≤ d → j < (idS n ns).length → vI (idS n ns) (-((m + 1 : Nat) : Int)) (n + 1) j = uI n ns (m + 1) j := by
      intro d
      induction d with
      | zero =>
        intro j hjd hj
        have h1 := vI_step hF hn (z := -((m + 1 : Nat) : Int)) (by omega) (by omega) hj
        rw [show -((m + 1 : Nat) : Int) + 1 = -(m : Int) by omega, ih j hj] at h1
        have h2 := uI_step hv hok m hj
        have h3 : inI (idS n ns) (vI (idS n ns) (-((m + 1 : Nat) : Int)) (n + 1)) j = inI (idS n ns) (uI n ns (m + 1)) j := inI_congr fun i hi hf => by
          obtain ⟨q1, q2⟩ := ft_ne hf
          have := sub_leW q1
          have := hF.low
          have h4 : j = 0 := by omega
          subst h4; omega
        omega
      | succ d ihd =>
        intro j hjd hj
        have h1 := vI_step hF hn (z := -((m + 1 : Nat) : Int)) (by omega) (by omega) hj
        rw [show -((m + 1 : Nat) : Int) + 1 = -(m : Int) by omega, ih j hj] at h1
        have h2 := uI_step hv hok m hj
        have h3 : inI (idS n ns) (vI (idS n ns) (-((m + 1 : Nat) : Int)) (n + 1)) j = inI (idS n ns) (uI n ns (m + 1)) j := inI_congr fun i hi hf => by
          obtain ⟨q1, q2⟩ := ft_ne hf
          have h4 := sub_leW q1
          refine ihd i ?_ hi
          rcases Nat.lt_trichotomy i j with q | q | q
          · omega
          · subst q; exact absurd rfl q2
          · have := hF.rise j i q hi; omega
        omega
    exact go j j (Nat.le_refl j) hj
end
end Go.Proofs.YtkackilhfkicoaaDoor
