import Derived.Test.YtdbngpkbamhbeaaCk
import Derived.Test.YtdbngpkbamhbeaaCh
set_option linter.unusedSimpArgs false
set_option linter.unusedVariables false
set_option linter.unusedSectionVars false
set_option maxRecDepth 20000
namespace Go.Proofs.Ytdbngpkbamhbeaa
instance (c : List Nat) (k : Nat) : Decidable (CanTo c k) := by unfold CanTo; infer_instance
def allN (n : Nat) : Nat → List (List Nat)
  | 0 => [[]]
  | k + 1 => (allN n k).flatMap fun l => (List.range n).map fun x => l ++ [x]
theorem allN_mem {n : Nat} : ∀ (k : Nat) (l : List Nat), l ∈ allN n k ↔ l.length = k ∧ ∀ x ∈ l, x < n
  | 0, l => by
    simp only [allN, List.mem_singleton]
    constructor
    · rintro rfl; exact ⟨rfl, fun x h => by cases h⟩
    · rintro ⟨h, _⟩; exact List.eq_nil_of_length_eq_zero h
  | k + 1, l => by
    simp only [allN, List.mem_flatMap, List.mem_map, List.mem_range]
    constructor
    · rintro ⟨m, hm, x, hx, rfl⟩
      obtain ⟨h1, h2⟩ := (allN_mem k m).1 hm
      refine ⟨by simp [h1], fun y hy => ?_⟩
      rcases List.mem_append.1 hy with h | h
      · exact h2 y h
      · rw [List.mem_singleton] at h; subst h; exact hx
    · rintro ⟨h1, h2⟩
      have hne : l ≠ [] := fun h => by rw [h] at h1; cases h1
      refine ⟨l.dropLast, (allN_mem k _).2 ⟨by simp [h1], fun x hx => h2 x (List.dropLast_subset l hx)⟩, l.getLast hne, h2 _ (List.getLast_mem hne), List.dropLast_concat_getLast hne⟩
theorem lex_app {a b : List Nat} : ∀ {x y : Nat}, a.length = b.length → a < b → a ++ [x] < b ++ [y] := by
  induction a generalizing b with
  | nil => intro x y hl h; cases b with
    | nil => simp at h
    | cons _ _ => cases hl
  | cons u a ih =>
    intro x y hl h
    cases b with
    | nil => cases hl
    | cons v b =>
      rw [List.cons_append, List.cons_append, List.cons_lt_cons_iff]
      rw [List.cons_lt_cons_iff] at h
      rcases h with h | ⟨h1, h2⟩
      · exact .inl h
      · exact .inr ⟨h1, ih (by simpa using hl) h2⟩
theorem lex_app1 {a : List Nat} {x y : Nat} (h : x < y) : a ++ [x] < a ++ [y] := by
  induction a with
  | nil => simpa [List.cons_lt_cons_iff] using h
  | cons u a ih => rw [List.cons_append, List.cons_append, List.cons_lt_cons_iff]; exact .inr ⟨rfl, ih⟩
theorem allN_srt (n : Nat) : ∀ k, (allN n k).Pairwise (· < ·)
  | 0 => by simp [allN]
  | k + 1 => by
    have ih := allN_srt n k
    rw [allN, List.pairwise_flatMap]
    refine ⟨fun a _ => ?_, ?_⟩
    · rw [List.pairwise_map]
      exact List.pairwise_lt_range.imp fun h => lex_app1 h
    · refine ih.imp_of_mem fun {a b} ha hb h x hx y hy => ?_
      obtain ⟨u, _, rfl⟩ := List.mem_map.1 hx
      obtain ⟨v, _, rfl⟩ := List.mem_map.1 hy
      exact lex_app (((allN_mem k a).1 ha).1.trans ((allN_mem k b).1 hb).1.symm) h
def conL (n : Nat) (f g : Nat → Nat → Nat) : List (List Nat) := (allN n n).filter fun c => decide (CanTo c c.length) && decide (Cpt n f g c)
theorem conL_mem {n : Nat} {f g : Nat → Nat → Nat} {c : List Nat} : c ∈ conL n f g ↔ Cg n f g c := by
  unfold conL
  rw [List.mem_filter, allN_mem, Bool.and_eq_true, decide_eq_true_eq, decide_eq_true_eq]
  constructor
  · rintro ⟨⟨h1, _⟩, h2, h3⟩; exact ⟨h1, h2, h3⟩
  · rintro ⟨h1, h2, h3⟩
    refine ⟨⟨h1, fun x hx => ?_⟩, h2, h3⟩
    obtain ⟨i, hi, e⟩ := mem_getD0 hx
    rw [← e]
    exact can_lt h1 h2 (by omega)
theorem conL_srt (n : Nat) (f g : Nat → Nat → Nat) : (conL n f g).Pairwise (· < ·) := (allN_srt n n).filter _
theorem conL_nd (n : Nat) (f g : Nat → Nat → Nat) : (conL n f g).Nodup := (conL_srt n f g).imp fun {a b} h e => by
  rw [e] at h; exact absurd h (List.lt_irrefl b)
theorem nd_subC {α : Type} [DecidableEq α] : ∀ (A L : List α), A.Nodup → (∀ x ∈ A, x ∈ L) → A.length ≤ L.length
  | [], _, _, _ => Nat.zero_le _
  | x :: r, L, h, hs => by
    rw [List.nodup_cons] at h
    have hx := hs x List.mem_cons_self
    have ih := nd_subC r (L.erase x) h.2 fun y hy => (List.mem_erase_of_ne (fun e : y = x => h.1 (e ▸ hy))).2 (hs y (List.mem_cons_of_mem _ hy))
    rw [List.length_erase_of_mem hx] at ih
    have := List.length_pos_of_mem hx
    rw [List.length_cons]; omega
theorem con_more {n : Nat} {f g : Nat → Nat → Nat} {out : List (List Nat)} (hnd : out.Nodup) (h : ∀ c ∈ out, Cg n f g c) : out.length ≤ (conL n f g).length := nd_subC _ _ hnd fun c hc => conL_mem.2 (h c hc)
theorem con_all {n : Nat} {f g : Nat → Nat → Nat} {out : List (List Nat)} (hnd : out.Nodup) (h : ∀ c, c ∈ out ↔ Cg n f g c) : out.Perm (conL n f g) :=
  (List.perm_ext_iff_of_nodup hnd (conL_nd n f g)).2 fun c => by rw [h, conL_mem]
theorem con_srt {n : Nat} {f g : Nat → Nat → Nat} {out : List (List Nat)} (hnd : out.Nodup) (h : ∀ c, c ∈ out ↔ Cg n f g c) : srtL out = conL n f g := by
  have h1 : (conL n f g).Pairwise (· ≤ ·) := (conL_srt n f g).imp fun h => List.le_of_lt h
  have h2 : (srtL out).Pairwise (· ≤ ·) := by
    have h := List.pairwise_mergeSort (le := fun a b : List Nat => !decide (b < a)) (by
      intro a b c
      simp only [Bool.not_eq_true', decide_eq_false_iff_not, List.not_lt]
      exact fun h1 h2 => List.le_trans h1 h2) (by
      intro a b
      simp only [Bool.or_eq_true, Bool.not_eq_true', decide_eq_false_iff_not, List.not_lt]
      exact List.le_total a b) out
    exact h.imp fun {a b} h => by
      simp only [Bool.not_eq_true', decide_eq_false_iff_not, List.not_lt] at h
      exact h
  exact ((List.mergeSort_perm _ _).trans (con_all hnd h)).eq_of_pairwise (fun a b _ _ h1 h2 => List.le_antisymm h1 h2) h2 h1
/-! The library's way to all of them. -/
def thQ (n : Nat) (f g : Nat → Nat → Nat) (x y : Nat) : List Nat := lsC n f g [(x, y)]
def jnC (n : Nat) (f g : Nat → Nat → Nat) (c d : List Nat) : List Nat := lsC n f g (prC c n ++ prC d n)
section
variable {n : Nat} {f g : Nat → Nat → Nat} (L : Lt n f g) (hn : n ≤ 40)
include L hn
theorem th_lst {x y : Nat} (hx : x < n) (hy : y < n) : Lst n f g (fun a b => (a, b) ∈ [(x, y)]) (thQ n f g x y) :=
  lsC_lst L hn (fun p hp => by rw [List.mem_singleton] at hp; subst hp; exact ⟨hx, hy⟩) (by simp)
theorem no_lst : Lst n f g (fun a b => (a, b) ∈ []) (lsC n f g []) := lsC_lst L hn (fun p hp => by cases hp) (by simp)
theorem jnc_lst {c d : List Nat} (hc : c.length = n) (hd : d.length = n) : Lst n f g (fun a b => (a, b) ∈ prC c n ++ prC d n) (jnC n f g c d) :=
  lsC_lst L hn (fun p hp => by
    rcases List.mem_append.1 hp with h | h
    · exact prC_in hc p h
    · exact prC_in hd p h) (by rw [List.length_append, prC_len, prC_len]; omega)
theorem jnc_up {c d : List Nat} (hc : c.length = n) (hd : d.length = n) : (∀ x, x < n → ∀ y, y < n → c.getD x 0 = c.getD y 0 → (jnC n f g c d).getD x 0 = (jnC n f g c d).getD y 0) ∧ (∀ x, x < n → ∀ y, y < n → d.getD x 0 = d.getD y 0 → (jnC n f g c d).getD x 0 = (jnC n f g c d).getD y 0) := by
  have h := jnc_lst L hn hc hd
  exact ⟨(prC_says hc).1 fun p hp => h.has p.1 p.2 (List.mem_append_left _ hp), (prC_says hd).1 fun p hp => h.has p.1 p.2 (List.mem_append_right _ hp)⟩
theorem jnc_least {c d e : List Nat} (hc : c.length = n) (hd : d.length = n) (he : Cpt n f g e) (h1 : ∀ x, x < n → ∀ y, y < n → c.getD x 0 = c.getD y 0 → e.getD x 0 = e.getD y 0) (h2 : ∀ x, x < n → ∀ y, y < n → d.getD x 0 = d.getD y 0 → e.getD x 0 = e.getD y 0) :
    ∀ x, x < n → ∀ y, y < n → (jnC n f g c d).getD x 0 = (jnC n f g c d).getD y 0 → e.getD x 0 = e.getD y 0 :=
  (jnc_lst L hn hc hd).least e he fun a b hab => by
    rcases List.mem_append.1 hab with h | h
    · exact (prC_says (h := fun i => e.getD i 0) hc).2 h1 _ h
    · exact (prC_says (h := fun i => e.getD i 0) hd).2 h2 _ h
theorem con_full {out : List (List Nat)} (h0 : lsC n f g [] ∈ out) (hlen : ∀ c ∈ out, c.length = n) (hj : ∀ c ∈ out, ∀ x, x < n → ∀ y, y < x → jnC n f g c (thQ n f g x y) ∈ out) {c : List Nat} (hc : Cg n f g c) : c ∈ out := by
  have key : ∀ Q : List (Nat × Nat), (∀ p ∈ Q, p.2 < p.1 ∧ p.1 < n) → Q.length ≤ 2000 → ∃ d, d ∈ out ∧ Lst n f g (fun a b => (a, b) ∈ Q) d := by
    intro Q
    induction Q with
    | nil => exact fun _ _ => ⟨_, h0, no_lst L hn⟩
    | cons p Q ih =>
      intro hQ hl
      obtain ⟨d, hd, hL⟩ := ih (fun q hq => hQ q (List.mem_cons_of_mem _ hq)) (by simp at hl; omega)
      obtain ⟨h1, h2⟩ := hQ p List.mem_cons_self
      have hth := th_lst L hn h2 (Nat.lt_trans h1 h2)
      have hdl := hL.cg.len
      have hjl := jnc_lst L hn hdl hth.cg.len
      obtain ⟨u1, u2⟩ := jnc_up L hn hdl hth.cg.len
      refine ⟨_, hj d hd p.1 h2 p.2 h1, hjl.cg, fun a b hab => ?_, fun e he hR => ?_⟩
      · rcases List.mem_cons.1 hab with h | h
        · have := hth.has p.1 p.2 (by simp)
          have e1 : a = p.1 := by rw [← h]
          have e2 : b = p.2 := by rw [← h]
          rw [e1, e2]
          exact u2 _ h2 _ (Nat.lt_trans h1 h2) this
        · have hb := hQ (a, b) (List.mem_cons_of_mem _ h)
          exact u1 _ hb.2 _ (Nat.lt_trans hb.1 hb.2) (hL.has a b h)
      · exact jnc_least L hn hdl hth.cg.len he (hL.least e he fun a b h => hR a b (List.mem_cons_of_mem _ h)) (hth.least e he fun a b h => by
          rw [List.mem_singleton] at h
          exact hR a b (by rw [h]; exact List.mem_cons_self))
  let Q := ((List.range n).flatMap fun x => (List.range x).map fun y => (x, y)).filter fun p => decide (c.getD p.1 0 = c.getD p.2 0)
  have hQm : ∀ p, p ∈ Q ↔ (p.2 < p.1 ∧ p.1 < n) ∧ c.getD p.1 0 = c.getD p.2 0 := fun p => by
    show p ∈ List.filter _ _ ↔ _
    rw [List.mem_filter, List.mem_flatMap, decide_eq_true_eq]
    refine and_congr_left fun _ => ⟨?_, ?_⟩
    · rintro ⟨x, hx, hp⟩
      obtain ⟨y, hy, rfl⟩ := List.mem_map.1 hp
      exact ⟨List.mem_range.1 hy, List.mem_range.1 hx⟩
    · rintro ⟨h1, h2⟩
      exact ⟨p.1, List.mem_range.2 h2, List.mem_map.2 ⟨p.2, List.mem_range.2 h1, rfl⟩⟩
  have hQl : Q.length ≤ 2000 := by
    refine Nat.le_trans (List.length_filter_le _ _) ?_
    have : ∀ m, ((List.range m).flatMap fun x => (List.range x).map fun y => (x, y)).length ≤ m * m := fun m => by
      induction m with
      | zero => simp
      | succ m ih =>
        rw [List.range_succ, List.flatMap_append, List.length_append]
        have e : (m + 1) * (m + 1) = m * m + m + m + 1 := by rw [Nat.add_mul, Nat.mul_add]; omega
        simp only [List.flatMap_cons, List.flatMap_nil, List.append_nil, List.length_map, List.length_range]
        omega
    have h1 := this n
    have h2 : n * n ≤ 40 * 40 := Nat.mul_le_mul hn hn
    omega
  obtain ⟨d, hd, hL⟩ := key Q (fun p hp => ((hQm p).1 hp).1) hQl
  have hcL : Lst n f g (fun a b => (a, b) ∈ Q) c := ⟨hc, fun a b h => ((hQm _).1 h).2, fun e _ hR x hx y hy exy => by
    rcases Nat.lt_trichotomy x y with h | h | h
    · exact (hR y x ((hQm _).2 ⟨⟨h, hy⟩, exy.symm⟩)).symm
    · rw [h]
    · exact hR x y ((hQm _).2 ⟨⟨h, hx⟩, exy⟩)⟩
  have := Lst.one hL hcL hcL.has hL.has
  rwa [← this]
end
end Go.Proofs.Ytdbngpkbamhbeaa
