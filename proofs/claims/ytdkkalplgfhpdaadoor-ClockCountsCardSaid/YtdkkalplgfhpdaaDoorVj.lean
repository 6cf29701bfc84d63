import Derived.Test.YtdkkalplgfhpdaaDoorVg
import Derived.Test.YtdkkalplgfhpdaaDoorKa
set_option linter.unusedSimpArgs false
set_option linter.unusedVariables false
set_option linter.unusedSectionVars false
set_option maxRecDepth 20000
namespace Go.Proofs.YtdkkalplgfhpdaaDoor
attribute [local irreducible] QOp aL aC qL
/-- Of these events, how many are each worker's. -/
def cntA (l : List Ev) (w : Nat) (L : List Nat) : List Nat := (List.range w).map fun (v : Nat) => L.countP fun k => decide ((evA l k).2.1 = (v : Int))
theorem cntA_len (l : List Ev) (w : Nat) (L : List Nat) : (cntA l w L).length = w := by simp [cntA]
theorem cntA_nil (l : List Ev) (w : Nat) : cntA l w [] = List.replicate w 0 := by
  apply List.ext_getElem
  · simp [cntA]
  · intro i h1 h2; simp [cntA]
theorem cntA_get {l : List Ev} {w : Nat} {L : List Nat} {v : Nat} (h : v < w) : (cntA l w L).getD v 0 = L.countP fun k => decide ((evA l k).2.1 = (v : Int)) := by
  simp [cntA, List.getD_eq_getElem?_getD, h]
theorem cntA_app {l : List Ev} {w : Nat} {L : List Nat} {k v : Nat} (hv : (evA l k).2.1 = (v : Int)) (h : v < w) : cntA l w (L ++ [k]) = (cntA l w L).set v ((cntA l w L).getD v 0 + 1) := by
  rw [cntA_get h]
  apply List.ext_getElem
  · simp [cntA]
  · intro i h1 h2
    rw [List.getElem_set]
    by_cases e : v = i
    · subst e
      rw [if_pos rfl]
      simp only [cntA, List.getElem_map, List.getElem_range, List.countP_append]
      rw [List.countP_singleton, if_pos (decide_eq_true hv)]
    · rw [if_neg e]
      simp only [cntA, List.getElem_map, List.getElem_range, List.countP_append]
      rw [List.countP_singleton, if_neg (by rw [decide_eq_true_eq, hv]; omega)]
      rfl
theorem cntA_le {l : List Ev} {w : Nat} {L : List Nat} {v : Nat} (h : v < w) : (cntA l w L).getD v 0 ≤ L.length := by
  rw [cntA_get h]; exact List.countP_le_length
/-- It, and what is below it. -/
def dnS (ns : List Nat) (i : Nat) : Nat := ns.getD i 0 ||| 2 ^ i
def upB (ns : List Nat) (i k : Nat) : Bool := decide (k = i) || lt ns k i
theorem dnS_bit (ns : List Nat) (i k : Nat) : (dnS ns i).testBit k = upB ns i k := by
  unfold dnS upB lt
  rw [Nat.testBit_or, Nat.testBit_two_pow, Bool.or_comm]
  congr 1
  by_cases e : k = i
  · subst e; simp
  · rw [decide_eq_false e, decide_eq_false (by omega)]
theorem ah_lt2 {l : List Ev} {a b : Nat} (hb : b < l.length) (h : lt (ahO l) a b = true) : a < b := ah_rise ((clos_iff ah_lt hb).1 h)
theorem dnS_lt {l : List Ev} {i : Nat} (hl : l.length ≤ 10) (hi : i < l.length) : dnS (ahO l) i < 1024 := by
  have h1 := (ahO_vld l).get i
  have h2 : 2 ^ l.length ≤ 2 ^ 10 := Nat.pow_le_pow_right (by decide) hl
  have h3 : 2 ^ i ≤ 2 ^ 9 := Nat.pow_le_pow_right (by decide) (by omega)
  exact Nat.or_lt_two_pow (n := 10) (by omega) (by omega)
theorem mbs_dn {l : List Ev} {i : Nat} (hl : l.length ≤ 10) (hi : i < l.length) : mbs (dnS (ahO l) i) = (List.range (i + 1)).filter (upB (ahO l) i) := by
  have e : (List.range 10) = List.range (i + 1) ++ (List.range (10 - (i + 1))).map (i + 1 + ·) := by
    rw [← List.range_add]; congr 1; omega
  have hf : (List.range 10).filter (dnS (ahO l) i).testBit = (List.range 10).filter (upB (ahO l) i) := List.filter_congr fun k _ => dnS_bit _ _ _
  unfold mbs
  rw [hf, e, List.filter_append]
  suffices hh : List.filter (upB (ahO l) i) (List.map (i + 1 + ·) (List.range (10 - (i + 1)))) = [] by rw [hh, List.append_nil]
  rw [List.filter_eq_nil_iff]
  intro k hk h
  obtain ⟨t, _, rfl⟩ := List.mem_map.1 hk
  unfold upB at h
  rw [Bool.or_eq_true, decide_eq_true_eq] at h
  rcases h with h | h
  · omega
  · have := ah_lt2 hi h; omega
/-- The counts of the i-th event. -/
def ctR (l : List Ev) (w i : Nat) : List Nat := cntA l w ((List.range (i + 1)).filter (upB (ahO l) i))
def ctT (l : List Ev) (w k : Nat) : List (List Int) := (List.range k).map fun i => nl (ctR l w i)
theorem ctT_succ (l : List Ev) (w k : Nat) : ctT l w (k + 1) = ctT l w k ++ [nl (ctR l w k)] := by simp [ctT, List.range_succ]
theorem ctT_len (l : List Ev) (w k : Nat) : (ctT l w k).length = k := by simp [ctT]
theorem ctT_get {l : List Ev} {w k i : Nat} (h : i < k) : (ctT l w k).getD i [] = nl (ctR l w i) := by simp [ctT, List.getD_eq_getElem?_getD, h]
theorem upT_succ (l : List Ev) (i k : Nat) : (List.range (k + 1)).filter (upB (ahO l) i) = if upB (ahO l) i k = true then (List.range k).filter (upB (ahO l) i) ++ [k] else (List.range k).filter (upB (ahO l) i) := by
  rw [List.range_succ, List.filter_append]
  by_cases h : upB (ahO l) i k = true <;> simp [List.filter, h]
theorem countP_mono2 {p q r s : Nat → Bool} : ∀ L : List Nat, (∀ j ∈ L, p j = true → q j = true → r j = true ∧ s j = true) → (L.filter p).countP q ≤ (L.filter r).countP s
  | [], _ => by simp
  | x :: L, h => by
    have ih := countP_mono2 L fun j hj => h j (List.mem_cons_of_mem _ hj)
    have hx := h x (List.mem_cons_self ..)
    simp only [List.filter_cons]
    cases hp : p x <;> cases hr : r x <;> cases hq : q x <;> cases hs : s x <;> simp_all [List.countP_cons] <;> omega
theorem countP_lt2 {p q r s : Nat → Bool} {a : Nat} : ∀ L : List Nat, a ∈ L → r a = true → s a = true → (p a = true → q a = false) → (∀ j ∈ L, p j = true → q j = true → r j = true ∧ s j = true) → (L.filter p).countP q < (L.filter r).countP s
  | [], h, _, _, _, _ => by cases h
  | x :: L, ha, h1, h2, h3, h => by
    have hx := h x (List.mem_cons_self ..)
    have ih0 := countP_mono2 L fun j hj => h j (List.mem_cons_of_mem _ hj)
    by_cases e : a = x
    · subst e
      simp only [List.filter_cons]
      cases hp : p a <;> cases hq : q a <;> simp_all [List.countP_cons] <;> omega
    · have ih := countP_lt2 L (by rcases List.mem_cons.1 ha with h' | h'; exact absurd h' e; exact h') h1 h2 h3 fun j hj => h j (List.mem_cons_of_mem _ hj)
      simp only [List.filter_cons]
      cases hp : p x <;> cases hr : r x <;> cases hq : q x <;> cases hs : s x <;> simp_all [List.countP_cons] <;> omega
theorem ctR_get {l : List Ev} {w i v : Nat} (hl : l.length ≤ 10) (hi : i < l.length) (hv : v < w) : (ctR l w i).getD v 0 = ((List.range 10).filter (upB (ahO l) i)).countP fun k => decide ((evA l k).2.1 = (v : Int)) := by
  unfold ctR
  rw [cntA_get hv, ← mbs_dn hl hi]
  unfold mbs
  rw [List.filter_congr fun k _ => dnS_bit _ _ _]
theorem mattern {w : Nat} {l : List Ev} (h : EvP w l) {i k : Nat} (hi : i < l.length) (hk : k < l.length) : lt (ahO l) i k = true ↔ i ≠ k ∧ ∀ v, v < w → (ctR l w i).getD v 0 ≤ (ctR l w k).getD v 0 := by
  have hl := h.len
  have tr : ∀ a b c, b < l.length → c < l.length → lt (ahO l) a b = true → lt (ahO l) b c = true → lt (ahO l) a c = true := fun a b c hb hc h1 h2 =>
    (clos_iff ah_lt hc).2 (((clos_iff ah_lt hb).1 h1).trans ((clos_iff ah_lt hc).1 h2))
  have bnd : ∀ a b, b < l.length → upB (ahO l) b a = true → a < l.length := fun a b hb h1 => by
    unfold upB at h1
    rw [Bool.or_eq_true, decide_eq_true_eq] at h1
    rcases h1 with h1 | h1
    · omega
    · have := ah_lt2 hb h1; omega
  have same : ∀ a b, a < b → b < l.length → (evA l a).2.1 = (evA l b).2.1 → lt (ahO l) a b = true := fun a b hab hb hw => by
    refine (clos_iff ah_lt hb).2 (.one (ah_mem.2 ⟨hb, hab, ?_⟩))
    unfold ahB
    rw [decide_eq_true hw.symm, Bool.true_or]
  constructor
  · intro hlt
    have hik := ah_lt2 hk hlt
    refine ⟨by omega, fun v hv => ?_⟩
    rw [ctR_get hl hi hv, ctR_get hl hk hv]
    refine countP_mono2 _ fun j _ hj hq => ⟨?_, hq⟩
    unfold upB at hj ⊢
    rw [Bool.or_eq_true, decide_eq_true_eq] at hj ⊢
    rcases hj with rfl | hj
    · exact .inr hlt
    · exact .inr (tr j i k hi hk hj hlt)
  · rintro ⟨hne, hle⟩
    cases hlt : lt (ahO l) i k
    · exfalso
      obtain ⟨hw0, hw1, _⟩ := h.wk hi
      obtain ⟨v, hv⟩ := Int.eq_ofNat_of_zero_le hw0
      have hvw : v < w := by omega
      have h1 := hle v hvw
      rw [ctR_get hl hi hvw, ctR_get hl hk hvw] at h1
      have h2 := countP_lt2 (p := upB (ahO l) k) (q := fun j => decide ((evA l j).2.1 = (v : Int))) (r := upB (ahO l) i) (s := fun j => decide ((evA l j).2.1 = (v : Int))) (a := i) (List.range 10) (List.mem_range.2 (by omega)) (by simp [upB]) (decide_eq_true hv)
        (fun hp => by
          unfold upB at hp
          rw [hlt, Bool.or_false, decide_eq_true_eq] at hp
          exact absurd hp hne)
        (fun j _ hp hq => by
          refine ⟨?_, hq⟩
          have hj := bnd j k hk hp
          have hwj := of_decide_eq_true hq
          unfold upB at hp ⊢
          rw [Bool.or_eq_true, decide_eq_true_eq] at hp ⊢
          rcases Nat.lt_trichotomy j i with h3 | h3 | h3
          · exact .inr (same j i h3 hi (by rw [hwj, hv]))
          · exact .inl h3
          · exfalso
            have h4 := same i j h3 hj (by rw [hwj, hv])
            rcases hp with rfl | hp
            · rw [h4] at hlt; cases hlt
            · rw [tr i j k hj hk h4 hp] at hlt; cases hlt)
      omega
    · rfl
end Go.Proofs.YtdkkalplgfhpdaaDoor
