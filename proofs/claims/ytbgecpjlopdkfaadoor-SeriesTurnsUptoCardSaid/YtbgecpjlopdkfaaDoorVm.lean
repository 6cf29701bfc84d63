import Derived.Test.YtbgecpjlopdkfaaDoorSta
import Derived.Test.YtbgecpjlopdkfaaDoorSsj
import Derived.Test.YtbgecpjlopdkfaaDoorEngZzh
import Derived.Test.YtbgecpjlopdkfaaDoorTypes
import Derived.Ground.NamesProg
import Derived.Shelf.Lay
import Derived.Shelf.Sort.Plain
import Derived.Shelf.Slices.In.SortNone
set_option linter.unusedSimpArgs false
set_option linter.unusedVariables false
set_option linter.unusedSectionVars false
set_option maxRecDepth 20000
namespace Go.Proofs.YtbgecpjlopdkfaaDoor
attribute [local irreducible] QOp aL aC qL
def krN (g : Tr → Nat) (k : Int) (l : List Tr) : Nat → Nat
  | 0 => 1
  | i + 1 => krN g k l i * g (l.getD i t000) * (if k = 2 then ch (kpts (l.take i)).length (l.getD i t000).pts.length else 1)
def rwF : Nat → Tr → Nat
  | 0, _ => 0
  | d + 1, .mk k _ l => if k = 1 then 1 else krN (rwF d) k l l.length
/-- The points of a list, as a set. -/
def bsL (n : Nat) (L : List Int) : Nat := bs (fun b => decide ((b : Int) ∈ L)) n
theorem bsL_bit {n : Nat} {L : List Int} {i : Nat} (hi : i < n) : (bsL n L).testBit i = decide ((i : Int) ∈ L) := by
  unfold bsL
  rw [bs_bit, decide_eq_true hi, Bool.true_and]
theorem bsL_app {n : Nat} {A B : List Int} {i : Nat} (hi : i < n) : (bsL n (A ++ B)).testBit i = (bsL n A ||| bsL n B).testBit i := by
  rw [Nat.testBit_or, bsL_bit hi, bsL_bit hi, bsL_bit hi, Bool.eq_iff_iff, Bool.or_eq_true, decide_eq_true_eq, decide_eq_true_eq, decide_eq_true_eq, List.mem_append]
theorem bsL_pc {n : Nat} : ∀ {L : List Int}, L.Nodup → (∀ x ∈ L, ∃ i : Nat, i < n ∧ x = (i : Int)) → pcE n (bsL n L) = L.length
  | [], _, _ => by
    have h : ∀ m, m ≤ n → pcE m (bsL n []) = 0 := by
      intro m
      induction m with
      | zero => intro _; rfl
      | succ m ih =>
        intro hm
        unfold pcE
        rw [ih (by omega), bsL_bit (by omega)]; simp
    exact h n (Nat.le_refl _)
  | x :: L, hn, hr => by
    obtain ⟨i, hi, rfl⟩ := hr x List.mem_cons_self
    rw [List.nodup_cons] at hn
    have hb : (bsL n ((i : Int) :: L)).testBit i = true := by rw [bsL_bit hi]; simp
    have h1 := pcE_rm hb hi
    rw [pcE_congr (S := ndiff (bsL n ((i : Int) :: L)) (2 ^ i)) (T := bsL n L) (fun j hj => by
      rw [rm_bit, bsL_bit hj, bsL_bit hj]
      by_cases e : i = j
      · subst e
        rw [decide_eq_false hn.1]; simp
      · rw [decide_eq_false e, Bool.not_false, Bool.and_true]
        refine decide_eq_decide.2 ?_
        rw [List.mem_cons]
        constructor
        · rintro (h | h)
          · omega
          · exact h
        · exact .inr), bsL_pc (L := L) hn.2 fun y hy => hr y (List.mem_cons_of_mem _ hy)] at h1
    rw [List.length_cons]; omega
theorem sum_oneE {f : Nat → Nat} {b : Nat} : ∀ {n : Nat}, b < n → (∀ i, i < n → i ≠ b → f i = 0) → sumTo f n = f b
  | n + 1, hb, h => by
    show sumTo f n + f n = f b
    by_cases e : b = n
    · subst e
      rw [sumTo_zero fun i hi => h i (by omega) (by omega), Nat.zero_add]
    · rw [sum_oneE (n := n) (by omega) fun i hi hne => h i (by omega) hne, h n (by omega) (fun q => e q.symm), Nat.add_zero]
theorem eS_one {n : Nat} {R : Nat → Nat → Bool} {S x : Nat} (hx : x < n) (hS : ∀ i, i < n → S.testBit i = decide (i = x)) (hR : R x x = false) : eS n R S = 1 := by
  have hb : S.testBit x = true := by rw [hS x hx]; simp
  have hp := pcE_rm hb hx
  have hz : pcE n (ndiff S (2 ^ x)) = 0 := by
    apply Classical.byContradiction
    intro h
    obtain ⟨i, hi, e⟩ := pcE_pos h
    rw [rm_bit, hS i hi] at e
    by_cases q : i = x
    · subst q; simp at e
    · rw [decide_eq_false q] at e; simp at e
  rw [eS_step (by omega), sum_oneE hx (fun i hi hne => by
    rw [if_neg]
    intro h
    have := (mnB_iff.1 h).1
    rw [hS i hi, decide_eq_false hne] at this; cases this), if_pos (mnB_iff.2 ⟨hb, fun y hy hs => by
      rw [hS y hy, decide_eq_true_eq] at hs
      rw [hs]; exact hR⟩), eS_nil hz]
theorem nodup_app_disj {A B : List Int} (h : (A ++ B).Nodup) {x : Int} (h1 : x ∈ A) (h2 : x ∈ B) : False := (List.nodup_append.1 h).2.2 x h1 x h2 rfl
theorem kpts_takeD {l : List Tr} {i : Nat} (h : i < l.length) : kpts (l.take (i + 1)) = kpts (l.take i) ++ (l.getD i t000).pts := by rw [getDT h]; exact kpts_take h
theorem kpts_sub : ∀ (l : List Tr) (i : Nat), ∃ r, kpts l = kpts (l.take i) ++ r
  | [], i => ⟨[], by simp [kpts]⟩
  | t :: l, 0 => ⟨kpts (t :: l), by rw [List.take_zero, show kpts [] = [] by unfold kpts; rfl]; rfl⟩
  | t :: l, i + 1 => by
    obtain ⟨r, h⟩ := kpts_sub l i
    refine ⟨r, ?_⟩
    rw [List.take_succ_cons]
    show t.pts ++ kpts l = (t.pts ++ kpts (l.take i)) ++ r
    rw [h, List.append_assoc]
theorem take_find {l : List Tr} {i : Nat} {x : Int} (hi : i ≤ l.length) (h : x ∈ kpts (l.take i)) : ∃ j, j < i ∧ x ∈ (l.getD j t000).pts := by
  obtain ⟨j, hj, hx⟩ := kpts_find.1 h
  rw [List.length_take] at hj
  refine ⟨j, by omega, ?_⟩
  rw [List.getD_eq_getElem?_getD, List.getElem?_take_of_lt (by omega), ← List.getD_eq_getElem?_getD] at hx
  exact hx
/-- The parts told one behind the other. -/
theorem kr_E {n d : Nat} {k p : Int} {l : List Tr} (hk : k = 2 ∨ k = 3) (hn : (kpts l).Nodup) (hr : ∀ x ∈ kpts l, ∃ i : Nat, i < n ∧ x = (i : Int)) (hkid : ∀ i, i < l.length → eS n (fun a b => tls d (l.getD i t000) a b) (bsL n (l.getD i t000).pts) = rwF d (l.getD i t000)) :
    ∀ i, i ≤ l.length → eS n (fun a b => tls (d + 1) (.mk k p l) a b) (bsL n (kpts (l.take i))) = krN (rwF d) k l i
  | 0, _ => by
    rw [List.take_zero, show kpts [] = [] by unfold kpts; rfl]
    exact eS_nil (bsL_pc List.nodup_nil (fun _ h => by cases h))
  | i + 1, hi => by
    have ih := kr_E (p := p) hk hn hr hkid i (by omega)
    have hil : i < l.length := hi
    have e := kpts_takeD hil
    obtain ⟨r, er⟩ := kpts_sub l (i + 1)
    have hn1 : (kpts (l.take i) ++ (l.getD i t000).pts).Nodup := by
      rw [← e]; rw [er] at hn; exact (List.nodup_append.1 hn).1
    have hr1 : ∀ x ∈ kpts (l.take (i + 1)), ∃ j : Nat, j < n ∧ x = (j : Int) := fun x hx => hr x (by rw [er]; exact List.mem_append_left _ hx)
    rw [e] at hr1
    have hnA := (List.nodup_append.1 hn1).1
    have hnB := (List.nodup_append.1 hn1).2.1
    have pA := bsL_pc (n := n) hnA fun x hx => hr1 x (List.mem_append_left _ hx)
    have pB := bsL_pc (n := n) hnB fun x hx => hr1 x (List.mem_append_right _ hx)
    have hB : eS n (fun a b => tls (d + 1) (.mk k p l) a b) (bsL n (l.getD i t000).pts) = rwF d (l.getD i t000) := by
      rw [← hkid i hil]
      refine eS_congr (fun _ _ => rfl) fun a b ha hb sa sb => ?_
      rw [bsL_bit ha, decide_eq_true_eq] at sa
      rw [bsL_bit hb, decide_eq_true_eq] at sb
      show tls (d + 1) (.mk k p l) a b = _
      rw [tls_kids hn hil hil sa sb, if_pos rfl]
    have hd : ∀ j, j < n → (bsL n (kpts (l.take i))).testBit j = true → (bsL n (l.getD i t000).pts).testBit j = true → False := fun j hj h1 h2 => by
      rw [bsL_bit hj, decide_eq_true_eq] at h1 h2
      exact nodup_app_disj hn1 h1 h2
    have hx : ∀ a b, a < n → b < n → (bsL n (kpts (l.take i))).testBit a = true → (bsL n (l.getD i t000).pts).testBit b = true → tls (d + 1) (.mk k p l) a b = decide (k = 3) ∧ tls (d + 1) (.mk k p l) b a = false := fun a b ha hb h1 h2 => by
      rw [bsL_bit ha, decide_eq_true_eq] at h1
      rw [bsL_bit hb, decide_eq_true_eq] at h2
      obtain ⟨j, hj, h1⟩ := take_find (by omega) h1
      rw [tls_kids hn (by omega) hil h1 h2, if_neg (by omega), tls_kids hn hil (by omega) h2 h1, if_neg (by omega), decide_eq_true hj, decide_eq_false (show ¬ i < j by omega)]
      simp
    rw [e, eS_congr (R := fun a b => tls (d + 1) (.mk k p l) a b) (R' := fun a b => tls (d + 1) (.mk k p l) a b) (S := bsL n (kpts (l.take i) ++ (l.getD i t000).pts)) (T := bsL n (kpts (l.take i)) ||| bsL n (l.getD i t000).pts) (fun j hj => bsL_app hj) (fun _ _ _ _ _ _ => rfl)]
    show _ = krN (rwF d) k l i * rwF d (l.getD i t000) * _
    rcases hk with rfl | rfl
    · rw [eS_side _ _ _ rfl hd (fun a b ha hb h1 h2 => hx a b ha hb h1 h2), ih, hB, pA, pB, if_pos rfl, Nat.mul_comm]
    · rw [eS_over _ _ rfl hd (fun a b ha hb h1 h2 => hx a b ha hb h1 h2), ih, hB, if_neg (by decide), Nat.mul_one]
theorem rw_E {n : Nat} : ∀ (d : Nat) (t : Tr), t.dep ≤ d → t.frm = 0 → t.pts.Nodup → (∀ x ∈ t.pts, ∃ i : Nat, i < n ∧ x = (i : Int)) → eS n (fun a b => tls d t a b) (bsL n t.pts) = rwF d t
  | 0, .mk k p l, hd, _, _, _ => by unfold Tr.dep at hd; omega
  | d + 1, .mk k p l, hd, hf, hn, hr => by
    obtain ⟨h1, h2, h3⟩ := frm_kids hf
    unfold Tr.dep at hd
    by_cases hk : k = 1
    · have hl : l = [] := List.length_eq_zero_iff.1 (by omega)
      subst hl; subst hk
      have ep : (Tr.mk 1 p []).pts = [p] := by unfold Tr.pts; rw [if_pos rfl]
      rw [ep] at hr ⊢
      obtain ⟨x, hx, rfl⟩ := hr p (List.mem_singleton.2 rfl)
      show _ = 1
      refine eS_one hx (fun i hi => ?_) ?_
      · rw [bsL_bit hi]
        refine decide_eq_decide.2 ?_
        rw [List.mem_singleton]; omega
      · show tls (d + 1) (.mk 1 (x : Int) []) x x = false
        unfold tls; rfl
    · have ep : (Tr.mk k p l).pts = kpts l := by unfold Tr.pts; rw [if_neg hk]
      rw [ep] at hn hr ⊢
      have := kr_E (n := n) (d := d) (k := k) (p := p) (l := l) (by omega) hn hr (fun i hi => by
        refine rw_E d (l.getD i t000) (by have := dep_kidD hi; omega) (by rw [getDT hi]; exact kfrm_get h3 hi) (kpts_ndk hn hi) fun x hx => hr x (kpts_find.2 ⟨i, hi, hx⟩)) l.length (Nat.le_refl _)
      rw [List.take_length] at this
      rw [this]
      show _ = if k = 1 then 1 else krN (rwF d) k l l.length
      rw [if_neg hk]
/-- A right term has as many rows as its order. -/
theorem rw_rest {t : Tr} (h : tck t = 0) : rest t.pts.length (mayO (tOf t)) 0 = rwF t.dep t := by
  obtain ⟨_, _, hf, _⟩ := tck_zero h
  obtain ⟨hn, hm⟩ := tck_pts h
  have hr : ∀ x ∈ t.pts, ∃ i : Nat, i < t.pts.length ∧ x = (i : Int) := fun x hx => (hm x).1 hx
  rw [← rw_E t.dep t (Nat.le_refl _) hf hn hr]
  have hv : Vld t.pts.length (tOf t) := ofn_vld _ _
  rw [rest_eS hv (S := bsL t.pts.length t.pts) fun i hi => by
    rw [bsL_bit hi, decide_eq_true_eq]
    exact (hm _).2 ⟨i, hi, rfl⟩]
  refine eS_congr (fun _ _ => rfl) fun a b ha hb _ _ => ?_
  unfold tOf
  exact ofn_lt _ ha hb
theorem ch_up : ∀ (p q : Nat), ch p q ≤ ch p (q + 1)
  | 0, q => by rw [ch_nil, ch_nil]; exact Nat.le_refl _
  | p + 1, q => by rw [ch_succ]; omega
theorem ch_mon (p : Nat) {q : Nat} : ∀ {r : Nat}, q ≤ r → ch p q ≤ ch p r
  | 0, h => by rw [show q = 0 by omega]; exact Nat.le_refl _
  | r + 1, h => by
    by_cases e : q = r + 1
    · rw [e]; exact Nat.le_refl _
    · exact Nat.le_trans (ch_mon p (r := r) (by omega)) (ch_up p r)
theorem ch_div (c p q : Nat) : ((((c * ch p q : Nat) : Int) * (((p + q + 1 : Nat)) : Int)) / ((q + 1 : Nat) : Int)) = ((c * ch p (q + 1) : Nat) : Int) := by
  have h := ch_step p q
  have e : c * ch p q * (p + q + 1) = (q + 1) * (c * ch p (q + 1)) := by
    rw [Nat.mul_assoc, Nat.mul_comm (ch p q), ← h, ← Nat.mul_assoc, ← Nat.mul_assoc, Nat.mul_comm c]
  rw [← Int.natCast_mul, e, Int.natCast_mul]
  exact Int.mul_ediv_cancel_left _ (by omega)
end Go.Proofs.YtbgecpjlopdkfaaDoor
set_option linter.unusedSimpArgs false
set_option linter.unusedVariables false
set_option linter.unusedSectionVars false
set_option maxRecDepth 20000
namespace Go.Proofs
open Go.Shelf Go.Lib Go.Sort Go.RowKit
shelf_lay Lays.n189 Nm 189 at Tryd as YtbgecpjlopdkfaaDoor.layS
end Go.Proofs
namespace Go.Proofs.YtbgecpjlopdkfaaDoor
open Go.RowKit
/-- Numbers, sorted. -/
def srl (l : List Int) : List Int := l.mergeSort fun x y => decide (x ≤ y)
theorem srl_perm (l : List Int) : (srl l).Perm l := List.mergeSort_perm l _
theorem srl_len (l : List Int) : (srl l).length = l.length := (srl_perm l).length_eq
theorem srl_sorted (l : List Int) : (srl l).Pairwise (· ≤ ·) := by
  have h := List.pairwise_mergeSort (le := fun x y : Int => decide (x ≤ y)) (by intro a b c; simp; omega) (by intro a b; simp; omega) l
  exact h.imp fun h => by simpa using h
/-- Whatever is sorted and has the same numbers. -/
theorem srl_eq {l r : List Int} (hp : r.Perm l) (hs : r.Pairwise (· ≤ ·)) : srl l = r :=
  ((srl_perm l).trans hp.symm).eq_of_pairwise (fun a b _ _ h1 h2 => Int.le_antisymm h1 h2) (srl_sorted l) hs
theorem Sort_fn : layS_ren.f 189 = 108 := by first | rfl | decide
theorem Sort_ac (l : List Int) (hl : l.length < 4611686018427387904) : AC Tryd.prog 108 [.own 0] [.row 3 1 (intc l)] (.tup []) [.row 3 1 (intc (srl l))] := by
  refine ⟨⟨Tryd.f108, Tryd.func108, by kernel_rfl, rfl⟩, ?_⟩
  intro zs ρ w vs hg hsz hargs
  obtain ⟨v, rfl⟩ : ∃ v, vs = #[v] := by
    have : vs.size = 1 := hsz
    exact ⟨vs[0], by apply Array.ext; simp [this]; intro i h1 h2; simp at h2; subst h2; rfl⟩
  have hv := hargs 0 _ v rfl rfl
  obtain ⟨hρ, h | ⟨b, cap, cur, rfl, hh, hnc, hcm, hcs, hbl, hH⟩⟩ := row_is hg hv
  · obtain ⟨rfl, rfl⟩ := h
    rw [← Sort_fn, show srl [] = [] by simp [srl]]
    refine (Any.slices_Sort_int_none layS none 0 w).mono ?_
    rintro e w' ⟨rfl, rfl⟩
    exact ⟨_, ρ, rfl, Same.refl _ _, hg, .tup _ _ rfl (fun i a v h => by cases h), fun _ _ h => h, fun b h _ => h⟩
  · rw [← Sort_fn]
    refine (Any.slices_Sort_int layS b 0 cap l w hH hbl hl).mono ?_
    rintro e w' ⟨rfl, q, os, hw'⟩
    obtain ⟨w2, hw2, hs, hg2, _⟩ := put_turnG (q := q) (os := os) (r := srl l) hg hρ hh hnc hcm hcs (srl_len l)
    obtain rfl : w' = w2 := hw'.trans hw2.symm
    refine ⟨_, ρ, rfl, hs, hg2, .tup _ _ rfl (fun i a v h => by cases h), fun _ _ h => h, fun b h _ => ?_⟩
    obtain ⟨id, o, l', h1, h2, h3⟩ := h
    cases id with
    | zero => obtain rfl := Option.some.inj h1; exact ⟨0, _, l', rfl, h2, h3⟩
    | succ id => simp at h1
end Go.Proofs.YtbgecpjlopdkfaaDoor
