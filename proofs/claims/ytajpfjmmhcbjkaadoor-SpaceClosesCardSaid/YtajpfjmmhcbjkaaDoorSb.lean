/- Closures, plain: what a closure is; no set has more than 14 turns (KURATOWSKI). -/
import Derived.Test.YtajpfjmmhcbjkaaDoorSa
import Derived.Test.YtajpfjmmhcbjkaaDoorFi
set_option linter.unusedSimpArgs false
set_option linter.unusedVariables false
set_option linter.unusedSectionVars false
set_option maxRecDepth 20000
namespace Go.Proofs.YtajpfjmmhcbjkaaDoor
attribute [local irreducible] QOp aL aC qL
def clP (n : Nat) (ns : List Nat) (set i : Nat) : Bool := (List.range n).any fun k => set.testBit k && upB ns i k
def clN (n : Nat) (ns : List Nat) (set : Nat) : Nat := bs (clP n ns set) n
def reN (n s : Nat) : Nat := 2 ^ n - 1 - s
theorem clN_lt (n : Nat) (ns : List Nat) (s : Nat) : clN n ns s < 2 ^ n := bs_lt _ _
theorem p2_pos (n : Nat) : 0 < 2 ^ n := Nat.pow_pos (by decide)
theorem reN_lt (n s : Nat) : reN n s < 2 ^ n := by have := p2_pos n; unfold reN; omega
theorem bit_small {n s i : Nat} (hs : s < 2 ^ n) (h : s.testBit i = true) : i < n := by
  rcases Nat.lt_or_ge i n with h1 | h1
  · exact h1
  · rw [Nat.testBit_lt_two_pow (Nat.lt_of_lt_of_le hs (Nat.pow_le_pow_right (n := 2) (by decide) h1))] at h; cases h
theorem upS_iff {ns : List Nat} {a b : Nat} : upB ns a b = true ↔ a = b ∨ lt ns a b = true := by unfold upB; rw [Bool.or_eq_true, decide_eq_true_eq]
theorem clN_bit {n : Nat} {ns : List Nat} {s i : Nat} : (clN n ns s).testBit i = true ↔ i < n ∧ ∃ k, k < n ∧ s.testBit k = true ∧ (i = k ∨ lt ns i k = true) := by
  unfold clN clP
  rw [bs_bit, Bool.and_eq_true, decide_eq_true_eq, List.any_eq_true]
  constructor
  · rintro ⟨h, k, hk, h2⟩
    rw [Bool.and_eq_true, upS_iff] at h2
    exact ⟨h, k, List.mem_range.1 hk, h2.1, h2.2⟩
  · rintro ⟨h, k, hk, h2, h3⟩
    exact ⟨h, k, List.mem_range.2 hk, by rw [Bool.and_eq_true, upS_iff]; exact ⟨h2, h3⟩⟩
theorem reN_bit {n s : Nat} (hs : s < 2 ^ n) (i : Nat) : (reN n s).testBit i = (decide (i < n) && !s.testBit i) := by
  have e : reN n s = 2 ^ n - (s + 1) := by unfold reN; omega
  rw [e, Nat.testBit_two_pow_sub_succ hs]
theorem reN_re {n s : Nat} (hs : s < 2 ^ n) : reN n (reN n s) = s := by unfold reN; omega
def sle (a b : Nat) : Prop := ∀ i, a.testBit i = true → b.testBit i = true
theorem sle.antisymm {a b : Nat} (h : sle a b) (k : sle b a) : a = b := Nat.eq_of_testBit_eq fun i => by
  rw [Bool.eq_iff_iff]; exact ⟨h i, k i⟩
theorem sle.trans {a b c : Nat} (h : sle a b) (k : sle b c) : sle a c := fun i hi => k i (h i hi)
theorem cl_ext {n : Nat} {ns : List Nat} {s : Nat} (hs : s < 2 ^ n) : sle s (clN n ns s) := fun i hi => clN_bit.2 ⟨bit_small hs hi, i, bit_small hs hi, hi, .inl rfl⟩
theorem cl_mono {n : Nat} {ns : List Nat} {s t : Nat} (h : sle s t) : sle (clN n ns s) (clN n ns t) := fun i hi => by
  obtain ⟨h1, k, h2, h3, h4⟩ := clN_bit.1 hi
  exact clN_bit.2 ⟨h1, k, h2, h k h3, h4⟩
theorem cl_cl {n : Nat} {ns : List Nat} (hok : okB n ns = true) (s : Nat) : clN n ns (clN n ns s) = clN n ns s := by
  refine sle.antisymm (fun i hi => ?_) (cl_ext (clN_lt _ _ _))
  obtain ⟨h1, k, h2, h3, h4⟩ := clN_bit.1 hi
  obtain ⟨_, j, h6, h7, h8⟩ := clN_bit.1 h3
  refine clN_bit.2 ⟨h1, j, h6, h7, ?_⟩
  rcases h4 with rfl | h4
  · exact h8
  · rcases h8 with rfl | h8
    · exact .inr h4
    · exact .inr (okB_tr hok h6 h2 h8 h4)
theorem re_anti {n s t : Nat} (hs : s < 2 ^ n) (ht : t < 2 ^ n) (h : sle s t) : sle (reN n t) (reN n s) := fun i hi => by
  rw [reN_bit ht, Bool.and_eq_true, Bool.not_eq_true'] at hi
  rw [reN_bit hs, Bool.and_eq_true, Bool.not_eq_true']
  refine ⟨hi.1, ?_⟩
  cases hq : s.testBit i
  · rfl
  · rw [h i hq] at hi; cases hi.2
theorem cl_zero (n : Nat) (ns : List Nat) : clN n ns 0 = 0 := by
  refine Nat.eq_of_testBit_eq fun i => ?_
  rw [Bool.eq_iff_iff, clN_bit]
  simp
theorem cl_or (n : Nat) (ns : List Nat) (s t : Nat) : clN n ns (s ||| t) = clN n ns s ||| clN n ns t := by
  refine Nat.eq_of_testBit_eq fun i => ?_
  rw [Bool.eq_iff_iff, Nat.testBit_or, Bool.or_eq_true, clN_bit, clN_bit, clN_bit]
  constructor
  · rintro ⟨h1, k, h2, h3, h4⟩
    rw [Nat.testBit_or, Bool.or_eq_true] at h3
    exact h3.imp (fun h => ⟨h1, k, h2, h, h4⟩) (fun h => ⟨h1, k, h2, h, h4⟩)
  · rintro (⟨h1, k, h2, h3, h4⟩ | ⟨h1, k, h2, h3, h4⟩)
    · exact ⟨h1, k, h2, by rw [Nat.testBit_or, h3]; rfl, h4⟩
    · exact ⟨h1, k, h2, by rw [Nat.testBit_or, h3, Bool.or_true], h4⟩
/-- Seven turns are three. -/
theorem kur7 {n : Nat} {ns : List Nat} (hok : okB n ns = true) {x : Nat} : clN n ns (reN n (clN n ns (reN n (clN n ns (reN n (clN n ns x)))))) = clN n ns (reN n (clN n ns x)) := by
  have hc := clN_lt n ns
  have hr := reN_lt n
  have a1 : ∀ u, u < 2 ^ n → sle (reN n (clN n ns (reN n u))) u := fun u hu => by
    have := re_anti (hr u) (hc _) (cl_ext (ns := ns) (hr u))
    rwa [reN_re hu] at this
  refine sle.antisymm ?_ ?_
  · have h := cl_mono (ns := ns) (n := n) (a1 (clN n ns (reN n (clN n ns x))) (hc _))
    rwa [cl_cl hok] at h
  · refine cl_mono ?_
    have h1 := re_anti (hc _) (hc _) (cl_mono (ns := ns) (a1 (clN n ns x) (hc _)))
    rw [cl_cl hok] at h1
    exact h1
theorem kur14 {f g : Nat → Nat} {x0 x1 x2 x3 x4 x5 x6 x7 x8 x9 xa xb xc xd : Nat}
    (f0 : f x0 = x1) (f1 : f x1 = x1) (f2 : f x2 = x3) (f3 : f x3 = x3) (f4 : f x4 = x5) (f5 : f x5 = x5) (f6 : f x6 = x3)
    (f7 : f x7 = x8) (f8 : f x8 = x8) (f9 : f x9 = xa) (fa : f xa = xa) (fb : f xb = xc) (fc : f xc = xc) (fd : f xd = xa)
    (g0 : g x0 = x7) (g1 : g x1 = x2) (g2 : g x2 = x1) (g3 : g x3 = x4) (g4 : g x4 = x3) (g5 : g x5 = x6) (g6 : g x6 = x5)
    (g7 : g x7 = x0) (g8 : g x8 = x9) (g9 : g x9 = x8) (ga : g xa = xb) (gb : g xb = xa) (gc : g xc = xd) (gd : g xd = xc) :
    ∀ t, Rch f g x0 t → t ∈ [x0, x1, x2, x3, x4, x5, x6, x7, x8, x9, xa, xb, xc, xd] := fun t h => by
  induction h with
  | self => exact List.Mem.head _
  | one t _ ih =>
    simp only [List.mem_cons, List.not_mem_nil, or_false] at ih ⊢
    rcases ih with h | h | h | h | h | h | h | h | h | h | h | h | h | h
    · rw [h, f0]; simp
    · rw [h, f1]; simp
    · rw [h, f2]; simp
    · rw [h, f3]; simp
    · rw [h, f4]; simp
    · rw [h, f5]; simp
    · rw [h, f6]; simp
    · rw [h, f7]; simp
    · rw [h, f8]; simp
    · rw [h, f9]; simp
    · rw [h, fa]; simp
    · rw [h, fb]; simp
    · rw [h, fc]; simp
    · rw [h, fd]; simp
  | two t _ ih =>
    simp only [List.mem_cons, List.not_mem_nil, or_false] at ih ⊢
    rcases ih with h | h | h | h | h | h | h | h | h | h | h | h | h | h
    · rw [h, g0]; simp
    · rw [h, g1]; simp
    · rw [h, g2]; simp
    · rw [h, g3]; simp
    · rw [h, g4]; simp
    · rw [h, g5]; simp
    · rw [h, g6]; simp
    · rw [h, g7]; simp
    · rw [h, g8]; simp
    · rw [h, g9]; simp
    · rw [h, ga]; simp
    · rw [h, gb]; simp
    · rw [h, gc]; simp
    · rw [h, gd]; simp
def trnN (n : Nat) (ns : List Nat) (s : Nat) : Nat := (tvN (clN n ns) (reN n) (2 ^ n) s).length
theorem trn_14 {n : Nat} {ns : List Nat} (hok : okB n ns = true) {s : Nat} (hs : s < 2 ^ n) : 1 ≤ trnN n ns s ∧ trnN n ns s ≤ 14 := by
  have hc := clN_lt n ns
  have hr := reN_lt n
  have gg : ∀ u, u < 2 ^ n → reN n (reN n u) = u := fun u hu => reN_re hu
  have ff := cl_cl hok
  have k7 := fun u => kur7 (x := u) hok
  refine ⟨tvN_pos (fun s _ => hc s) (fun s _ => hr s) hs, ?_⟩
  refine tvN_le (l := [_, _, _, _, _, _, _, _, _, _, _, _, _, _]) (fun s _ => hc s) (fun s _ => hr s) hs (kur14 rfl (ff _) rfl (ff _) rfl (ff _) (k7 _) rfl (ff _) rfl (ff _) rfl (ff _) (k7 _) rfl rfl (gg _ (hc _)) rfl (gg _ (hc _)) rfl (gg _ (hc _)) (gg _ hs) rfl (gg _ (hc _)) rfl (gg _ (hc _)) rfl (gg _ (hc _)))
/-! The program's closure: point by point. -/
def clSt (ns L : List Nat) (s : Nat) : Nat → Nat
  | 0 => s
  | k + 1 => clSt ns L s k ||| ns.getD (L.getD k 0) 0
theorem clSt_s (ns L : List Nat) (s k : Nat) : clSt ns L s (k + 1) = clSt ns L s k ||| ns.getD (L.getD k 0) 0 := rfl
theorem clSt_lt {n : Nat} {ns : List Nat} (hv : Vld n ns) {L : List Nat} {s : Nat} (hs : s < 2 ^ n) : ∀ k, clSt ns L s k < 2 ^ n
  | 0 => hs
  | k + 1 => by rw [clSt_s]; exact Nat.or_lt_two_pow (clSt_lt hv hs k) (hv.get _)
theorem clSt_bit (ns L : List Nat) (s j : Nat) : ∀ k, (clSt ns L s k).testBit j = (s.testBit j || (List.range k).any fun i => lt ns j (L.getD i 0))
  | 0 => by simp [clSt]
  | k + 1 => by rw [clSt_s, Nat.testBit_or, clSt_bit ns L s j k, List.range_succ, List.any_append, Bool.or_assoc]; simp [lt]
theorem clSt_eq {n : Nat} {ns : List Nat} (hv : Vld n ns) (hn : n ≤ 10) {s : Nat} (hs : s < 2 ^ n) : clSt ns (mbs s) s (mbs s).length = clN n ns s := bs_eq (clSt_lt hv hs _) fun j hj => by
  have hs2 : s < 1024 := Nat.lt_of_lt_of_le hs (p2_10 hn)
  rw [clSt_bit, Bool.eq_iff_iff, Bool.or_eq_true, List.any_eq_true]
  unfold clP
  rw [List.any_eq_true]
  constructor
  · rintro (h | ⟨i, hi, h⟩)
    · exact ⟨j, List.mem_range.2 hj, by rw [h]; simp [upB]⟩
    · rw [List.mem_range] at hi
      have hm : (mbs s).getD i 0 ∈ mbs s := by rw [List.getD_eq_getElem?_getD, List.getElem?_eq_getElem hi]; exact List.getElem_mem _
      rw [mbs_mem hs2] at hm
      exact ⟨_, List.mem_range.2 (bit_small hs hm), by rw [hm, Bool.true_and, upS_iff]; exact .inr h⟩
  · rintro ⟨k, hk, h⟩
    rw [Bool.and_eq_true, upS_iff] at h
    rcases h with ⟨h1, rfl | h2⟩
    · exact .inl h1
    · obtain ⟨i, hi, he⟩ := List.getElem_of_mem ((mbs_mem hs2).2 h1)
      exact .inr ⟨i, List.mem_range.2 hi, by rw [List.getD_eq_getElem?_getD, List.getElem?_eq_getElem hi, Option.getD_some, he]; exact h2⟩
end Go.Proofs.YtajpfjmmhcbjkaaDoor
