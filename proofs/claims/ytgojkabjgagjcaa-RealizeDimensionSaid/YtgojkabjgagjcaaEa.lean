import Derived.Test.YtgojkabjgagjcaaHf
import Derived.Test.YtgojkabjgagjcaaHd
import Derived.Test.YtgojkabjgagjcaaXc
import Derived.Test.YtgojkabjgagjcaaGn
set_option linter.unusedSimpArgs false
set_option linter.unusedVariables false
set_option linter.unusedSectionVars false
set_option maxRecDepth 20000
namespace Go.Proofs.Ytgojkabjgagjcaa
attribute [local irreducible] QOp aL aC qL
theorem sumTo_at {g : Nat → Nat} {p : Nat} : ∀ {k : Nat}, p < k → g p ≤ sumTo g k
  | 0, h => by omega
  | k + 1, h => by
    show g p ≤ sumTo g k + g k
    by_cases hp : p = k
    · subst hp; omega
    · have := sumTo_at (g := g) (p := p) (k := k) (by omega)
      omega
theorem may_ex {n : Nat} {ns : List Nat} (hv : Vld n ns) (hok : okB n ns = true) {s : Nat} : ∀ h i, i < n → hgt n ns i ≤ h → s.testBit i = false → ∃ p, p < n ∧ mayO ns s p = true
  | h, i, hi, hh, hs => by
    by_cases hsub : sub (ns.getD i 0) s = true
    · exact ⟨i, hi, by unfold mayO; rw [hs, hsub]; rfl⟩
    · have : ∃ j, (ns.getD i 0).testBit j = true ∧ s.testBit j = false := by
        rcases Classical.em (∃ j, (ns.getD i 0).testBit j = true ∧ s.testBit j = false) with h1 | h1
        · exact h1
        · exfalso
          apply hsub
          rw [sub_iff]
          intro j hj
          cases hq : s.testBit j
          · exact absurd ⟨j, hj, hq⟩ h1
          · rfl
      obtain ⟨j, hj1, hj2⟩ := this
      have hjn : j < n := by
        rcases Nat.lt_or_ge j n with h1 | h1
        · exact h1
        · rw [Nat.testBit_lt_two_pow (Nat.lt_of_lt_of_le (hv.get i) (Nat.pow_le_pow_right (by decide) h1))] at hj1
          cases hj1
      have hup := hgt_up hok hjn hi hj1
      match h with
      | 0 => omega
      | h + 1 => exact may_ex hv hok h j hjn (by omega) hj2
theorem cnt_pos {n : Nat} {ns : List Nat} (hv : Vld n ns) (hok : okB n ns = true) : ∀ f s, mis n s = f → 1 ≤ cnt n (mayO ns) f s
  | 0, s, _ => Nat.le_refl 1
  | f + 1, s, h => by
    have : ∃ i, i < n ∧ s.testBit i = false := by
      rcases Classical.em (∃ i, i < n ∧ s.testBit i = false) with h1 | h1
      · exact h1
      · exfalso
        have := (mis_zero (n := n) (s := s)).2 fun i hi => by
          cases hq : s.testBit i
          · exact absurd ⟨i, hi, hq⟩ h1
          · rfl
        omega
    obtain ⟨i, hi, hs⟩ := this
    obtain ⟨p, hp, hm⟩ := may_ex hv hok _ i hi (Nat.le_refl _) hs
    have h2 := sumTo_at (g := fun p => if mayO ns s p = true then cnt n (mayO ns) f (s ||| 2 ^ p) else 0) hp
    have h3 := mis_add (mayO_not hm) hp
    have h4 := cnt_pos hv hok f (s ||| 2 ^ p) (by omega)
    simp only [hm, if_true] at h2
    show 1 ≤ sumTo _ n
    omega
theorem rest_pos {n : Nat} {ns : List Nat} (hv : Vld n ns) (hok : okB n ns = true) (s : Nat) : 1 ≤ rest n (mayO ns) s := cnt_pos hv hok _ s rfl
/-! The row of a number. -/
theorem nst_get {n : Nat} {may : Nat → Nat → Bool} {k0 : Nat} : ∀ j i, i < j → (nst n may k0 j).2.2.length = j → ((∀ m, m ≤ j → (nst n may k0 m).2.2.length = m)) → (nst n may k0 j).2.2.getD i 0 = pk n may (nst n may k0 i).1 (nst n may k0 i).2.1
  | 0, i, h, _, _ => by omega
  | j + 1, i, h, hl, ha => by
    have hj := ha j (by omega)
    show ((nst n may k0 j).2.2 ++ [_]).getD i 0 = _
    by_cases hi : i = j
    · subst hi
      rw [List.getD_eq_getElem?_getD, List.getElem?_append_right (by omega), hj, Nat.sub_self]; rfl
    · have ih := nst_get (n := n) (may := may) (k0 := k0) j i (by omega) hj fun m hm => ha m (by omega)
      rw [← ih]
      simp only [List.getD_eq_getElem?_getD]
      rw [List.getElem?_append_left (by omega)]
structure NthR (n : Nat) (ns : List Nat) (k : Nat) : Prop where
  row : RowN n ns (nthN n ns k)
  rk : rkN n ns (nthN n ns k) n = k
  at' : ∀ j, j < n → ∃ kj, rkN n ns (nthN n ns k) j + kj = k ∧ kj < sumTo (term n (mayO ns) (rsN (nthN n ns k) j)) n ∧ (nthN n ns k).getD j 0 = pk n (mayO ns) (rsN (nthN n ns k) j) kj
theorem nth_ok {n : Nat} {ns : List Nat} {k : Nat} (hk : k < rest n (mayO ns) 0) : NthR n ns k := by
  have hN := nst_ok (may := mayO ns) (fun s p h => mayO_not h) hk
  have hlen : ∀ m, m ≤ n → (nst n (mayO ns) k m).2.2.length = m := fun m hm => (hN m hm).len
  have hg : ∀ i, i < n → (nthN n ns k).getD i 0 = pk n (mayO ns) (nst n (mayO ns) k i).1 (nst n (mayO ns) k i).2.1 := fun i hi => nst_get n i hi (hlen n (Nat.le_refl n)) hlen
  have hS := fun j (h : j < n) => nst_sum (may := mayO ns) (fun s p h => mayO_not h) (hN j (by omega)) h
  have hrs : ∀ j, j ≤ n → rsN (nthN n ns k) j = (nst n (mayO ns) k j).1 := by
    intro j
    induction j with
    | zero => intro _; rfl
    | succ j ih =>
      intro hj
      rw [rsN, ih (by omega), hg j (by omega)]; rfl
  have hrk : ∀ j, j ≤ n → rkN n ns (nthN n ns k) j + (nst n (mayO ns) k j).2.1 = k := by
    intro j
    induction j with
    | zero => intro _; show 0 + k = k; omega
    | succ j ih =>
      intro hj
      have := ih (by omega)
      have h3 := (pk_spec (hS j (by omega))).2.2 _ (Nat.le_refl _)
      show rkN n ns (nthN n ns k) j + sumTo (term n (mayO ns) (rsN (nthN n ns k) j)) ((nthN n ns k).getD j 0) + ((nst n (mayO ns) k j).2.1 - sumTo (term n (mayO ns) (nst n (mayO ns) k j).1) (pk n (mayO ns) (nst n (mayO ns) k j).1 (nst n (mayO ns) k j).2.1)) = k
      rw [hrs j (by omega), hg j (by omega)]
      omega
  refine ⟨⟨hlen n (Nat.le_refl n), fun j hj => ?_, fun j hj => ?_⟩, ?_, fun j hj => ⟨(nst n (mayO ns) k j).2.1, hrk j (by omega), ?_, ?_⟩⟩
  · rw [hg j hj]; exact (pk_spec (hS j hj)).1
  · rw [hg j hj, hrs j (by omega)]; exact (pk_may (hS j hj)).1
  · have h1 := hN n (Nat.le_refl n)
    have h2 := hrk n (Nat.le_refl n)
    have h3 := h1.hk
    have h4 : mis n (nst n (mayO ns) k n).1 = 0 := by have := h1.mis; omega
    unfold rest at h3
    rw [h4] at h3
    have : cnt n (mayO ns) 0 (nst n (mayO ns) k n).1 = 1 := rfl
    omega
  · rw [hrs j (by omega)]; exact hS j hj
  · rw [hrs j (by omega)]; exact hg j hj
def befN (a b : List Nat) (j : Nat) : Prop := a.getD j 0 < b.getD j 0 ∧ ∀ i, i < j → a.getD i 0 = b.getD i 0
theorem row_is {n : Nat} {ns r : List Nat} (h : RowN n ns r) : isRow n ns (nl r) = true := by
  have hm : (nl r).map Int.toNat = r := by
    unfold nl
    rw [List.map_map]
    apply List.ext_getElem
    · simp
    · intro i h1 h2
      simp
  have hgI : ∀ j, (nl r).getD j 0 = ((r.getD j 0 : Nat) : Int) := fun j => by
    unfold nl
    simp only [List.getD_eq_getElem?_getD, List.getElem?_map]
    cases r[j]? <;> rfl
  rw [isRow_all fun j hj => ?_]
  · rw [decide_eq_true_eq, nl_len, h.len]
  · rw [nl_len, h.len] at hj
    unfold okAt
    rw [hm, hgI, Int.toNat_natCast, h.may j hj, decide_eq_true (by omega), decide_eq_true (by have := h.lt j hj; omega)]
    rfl
/-- Of n things the one that a number speaks of. -/
def chooseT (c : Int) (n : Nat) : Nat := (if c < 0 then -(c + 1) else c).toNat % n
end Go.Proofs.Ytgojkabjgagjcaa
set_option linter.unusedSimpArgs false
set_option linter.unusedVariables false
set_option linter.unusedSectionVars false
set_option maxRecDepth 20000
namespace Go.Proofs.Ytgojkabjgagjcaa
attribute [local irreducible] QOp aL aC qL
theorem sm_mono {g : Nat → Nat} {a b : Nat} (h : a ≤ b) : sumTo g a ≤ sumTo g b := by
  induction b with
  | zero => obtain rfl : a = 0 := by omega
            exact Nat.le_refl _
  | succ b ih =>
    by_cases e : a = b + 1
    · subst e; exact Nat.le_refl _
    · have := ih (by omega)
      show sumTo g a ≤ sumTo g b + g b
      omega
theorem rowN_mis {n : Nat} {ns r : List Nat} (h : RowN n ns r) : ∀ j, j ≤ n → mis n (rsN r j) + j = n
  | 0, _ => by rw [show rsN r 0 = 0 from rfl, mis_nought]; rfl
  | j + 1, hj => by
    have ih := rowN_mis h j (by omega)
    have := mis_add (mayO_not (h.may j (by omega))) (h.lt j (by omega))
    show mis n (rsN r j ||| 2 ^ r.getD j 0) + (j + 1) = n
    omega
theorem rk_rest {n : Nat} {ns r : List Nat} (h : RowN n ns r) : ∀ d j, j + d = n → rkN n ns r n - rkN n ns r j < rest n (mayO ns) (rsN r j)
  | 0, j, e => by
    obtain rfl : j = n := by omega
    have := rowN_mis h j (Nat.le_refl _)
    unfold rest
    rw [show mis j (rsN r j) = 0 by omega, Nat.sub_self]
    exact Nat.one_pos
  | d + 1, j, e => by
    have ih := rk_rest h d (j + 1) (by omega)
    have hm := rowN_mis h j (by omega)
    have hs : rsN r j < 2 ^ n := rs_lt h j (by omega)
    have hp := h.lt j (by omega)
    have hmay := h.may j (by omega)
    have hf : rsN r j ≠ 2 ^ n - 1 := fun q => by have := (mis_full hs).2 q; omega
    rw [rest_step (may := mayO ns) (fun s p h => mayO_not h) hs hf]
    have h1 : rkN n ns r (j + 1) = rkN n ns r j + sumTo (term n (mayO ns) (rsN r j)) (r.getD j 0) := rfl
    have h2 : sumTo (term n (mayO ns) (rsN r j)) (r.getD j 0 + 1) = sumTo (term n (mayO ns) (rsN r j)) (r.getD j 0) + rest n (mayO ns) (rsN r (j + 1)) := by
      show _ + term n (mayO ns) (rsN r j) (r.getD j 0) = _
      unfold term
      rw [if_pos hmay]; rfl
    have h3 := sm_mono (g := term n (mayO ns) (rsN r j)) (show r.getD j 0 + 1 ≤ n by omega)
    have h4 : rkN n ns r (j + 1) ≤ rkN n ns r n := sm_mono (show j + 1 ≤ n by omega)
    omega
theorem nst_row {n : Nat} {ns r : List Nat} (h : RowN n ns r) : ∀ j, j ≤ n → nst n (mayO ns) (rkN n ns r n) j = (rsN r j, rkN n ns r n - rkN n ns r j, r.take j)
  | 0, _ => by simp [nst, rsN, rkN, sumTo]
  | j + 1, hj => by
    have ih := nst_row h j (by omega)
    have hp := h.lt j (by omega)
    have hmay := h.may j (by omega)
    have hr := rk_rest h (n - (j + 1)) (j + 1) (by omega)
    have h1 : rkN n ns r (j + 1) = rkN n ns r j + sumTo (term n (mayO ns) (rsN r j)) (r.getD j 0) := rfl
    have h2 : sumTo (term n (mayO ns) (rsN r j)) (r.getD j 0 + 1) = sumTo (term n (mayO ns) (rsN r j)) (r.getD j 0) + rest n (mayO ns) (rsN r (j + 1)) := by
      show _ + term n (mayO ns) (rsN r j) (r.getD j 0) = _
      unfold term
      rw [if_pos hmay]; rfl
    have h4 : rkN n ns r (j + 1) ≤ rkN n ns r n := sm_mono (show j + 1 ≤ n by omega)
    have hlt : rkN n ns r n - rkN n ns r j < sumTo (term n (mayO ns) (rsN r j)) n := by
      have h3 := sm_mono (g := term n (mayO ns) (rsN r j)) (show r.getD j 0 + 1 ≤ n by omega)
      omega
    obtain ⟨p1, p2, p3⟩ := pk_spec hlt
    have hpk : pk n (mayO ns) (rsN r j) (rkN n ns r n - rkN n ns r j) = r.getD j 0 := by
      generalize pk n (mayO ns) (rsN r j) (rkN n ns r n - rkN n ns r j) = x at *
      rcases Nat.lt_trichotomy x (r.getD j 0) with q | q | q
      · have := sm_mono (g := term n (mayO ns) (rsN r j)) (show x + 1 ≤ r.getD j 0 from q)
        omega
      · exact q
      · have := p3 (r.getD j 0 + 1) q
        omega
    show (_ ||| 2 ^ _, _, _ ++ [_]) = _
    rw [ih]
    dsimp only
    rw [hpk]
    refine Prod.ext rfl (Prod.ext ?_ ?_)
    · show rkN n ns r n - rkN n ns r j - sumTo (term n (mayO ns) (rsN r j)) (r.getD j 0) = rkN n ns r n - rkN n ns r (j + 1)
      omega
    · show r.take j ++ [r.getD j 0] = r.take (j + 1)
      have hl : j < r.length := by rw [h.len]; omega
      rw [List.take_add_one, List.getElem?_eq_getElem hl, List.getD_eq_getElem?_getD, List.getElem?_eq_getElem hl]; rfl
/-- Each row is one of those that are counted through. -/
theorem nth_rank {n : Nat} {ns r : List Nat} (h : RowN n ns r) : rkN n ns r n < rest n (mayO ns) 0 ∧ nthN n ns (rkN n ns r n) = r := by
  refine ⟨?_, ?_⟩
  · have := rk_rest h n 0 (by omega)
    simpa [rkN, sumTo, rsN] using this
  · unfold nthN
    rw [nst_row h n (Nat.le_refl _)]
    show r.take n = r
    rw [← h.len, List.take_length]
/-- All rows, in order. -/
def rowsL (n : Nat) (ns : List Nat) : List (List Nat) := (List.range (rest n (mayO ns) 0)).map (nthN n ns)
theorem rowsL_mem {n : Nat} {ns r : List Nat} : r ∈ rowsL n ns ↔ RowN n ns r := by
  unfold rowsL
  rw [List.mem_map]
  refine ⟨fun ⟨k, hk, e⟩ => ?_, fun h => ⟨_, List.mem_range.2 (nth_rank h).1, (nth_rank h).2⟩⟩
  rw [← e]
  exact (nth_ok (List.mem_range.1 hk)).row
/-- A row: each point once, and in order. -/
theorem idxOf_get {r : List Nat} {p : Nat} (h : p ∈ r) : r.getD (r.idxOf p) 0 = p := by
  have hl := List.idxOf_lt_length_iff.2 h
  rw [List.getD_eq_getElem?_getD, List.getElem?_eq_getElem hl]
  exact List.getElem_idxOf hl
structure RowI (n : Nat) (ns r : List Nat) : Prop where
  len : r.length = n
  all : ∀ p, p < n → p ∈ r
  ord : ∀ a b, b < n → lt ns a b = true → r.idxOf a < r.idxOf b
theorem nd_perm {α : Type} [DecidableEq α] : ∀ (A L : List α), A.Nodup → (∀ x ∈ A, x ∈ L) → L.length ≤ A.length → A.Perm L
  | [], L, _, _, hl => by
    have : L = [] := List.eq_nil_of_length_eq_zero (by simpa using hl)
    rw [this]
  | x :: r, L, h, hs, hl => by
    rw [List.nodup_cons] at h
    have hx := hs x List.mem_cons_self
    have e := List.length_erase_of_mem hx
    rw [List.length_cons] at hl
    have ih := nd_perm r (L.erase x) h.2 (fun y hy => (List.mem_erase_of_ne (fun e : y = x => h.1 (e ▸ hy))).2 (hs y (List.mem_cons_of_mem _ hy))) (by omega)
    exact (ih.cons x).trans (List.perm_cons_erase hx).symm
theorem full_perm {n : Nat} {r : List Nat} (hl : r.length = n) (ha : ∀ p, p < n → p ∈ r) : r.Perm (List.range n) :=
  (nd_perm _ _ List.nodup_range (fun x hx => ha x (List.mem_range.1 hx)) (by rw [List.length_range]; omega)).symm
theorem nd_idx {r : List Nat} (h : r.Nodup) {j : Nat} (hj : j < r.length) : r.idxOf r[j] = j := by
  have hm := List.getElem_mem hj
  have hl := List.idxOf_lt_length_iff.2 hm
  have e := List.getElem_idxOf hl
  rw [List.nodup_iff_pairwise_ne, List.pairwise_iff_getElem] at h
  rcases Nat.lt_trichotomy (r.idxOf r[j]) j with q | q | q
  · exact absurd e (h _ _ hl hj q)
  · exact q
  · exact absurd e.symm (h _ _ hj hl q)
theorem rowI {n : Nat} {ns r : List Nat} (hv : Vld n ns) : RowN n ns r ↔ RowI n ns r := by
  constructor
  · intro h
    have hP := rowN_p h
    have hnd : r.Nodup := by
      rw [List.nodup_iff_pairwise_ne, List.pairwise_iff_getElem]
      intro i j hi hj hij e
      have := hP.inj i j (by rw [← h.len]; exact hi) (by rw [← h.len]; exact hj) (by
        rw [List.getD_eq_getElem?_getD, List.getD_eq_getElem?_getD, List.getElem?_eq_getElem hi, List.getElem?_eq_getElem hj]
        exact e)
      omega
    have hsub : ∀ x ∈ r, x ∈ List.range n := fun x hx => by
      obtain ⟨i, hi, rfl⟩ := List.mem_iff_getElem.1 hx
      have := h.lt i (by rw [← h.len]; exact hi)
      rw [List.getD_eq_getElem?_getD, List.getElem?_eq_getElem hi] at this
      exact List.mem_range.2 this
    have hper := nd_perm _ _ hnd hsub (by rw [List.length_range, h.len]; exact Nat.le_refl _)
    have hall : ∀ p, p < n → p ∈ r := fun p hp => hper.mem_iff.2 (List.mem_range.2 hp)
    refine ⟨h.len, hall, fun a b hb hab => ?_⟩
    have hbm := hall b hb
    have hbl := List.idxOf_lt_length_iff.2 hbm
    rw [h.len] at hbl
    obtain ⟨i, hi, e⟩ := hP.down (r.idxOf b) hbl a (by rw [idxOf_get hbm]; exact hab)
    have hil : i < r.length := by rw [h.len]; omega
    have ham : a ∈ r := by
      rw [← e, List.getD_eq_getElem?_getD, List.getElem?_eq_getElem hil]
      exact List.getElem_mem hil
    have hal := List.idxOf_lt_length_iff.2 ham
    have := hP.inj i (r.idxOf a) (by omega) (by rw [← h.len]; exact hal) (by rw [e, idxOf_get ham])
    omega
  · intro h
    have hper := full_perm h.len h.all
    have hnd : r.Nodup := hper.nodup_iff.2 List.nodup_range
    have hlt : ∀ x ∈ r, x < n := fun x hx => List.mem_range.1 (hper.mem_iff.1 hx)
    have hg : ∀ j, j < n → ∃ hj : j < r.length, r.getD j 0 = r[j] ∧ r.idxOf r[j] = j := fun j hj => by
      have hj' : j < r.length := by rw [h.len]; exact hj
      refine ⟨hj', by rw [List.getD_eq_getElem?_getD, List.getElem?_eq_getElem hj']; rfl, ?_⟩
      exact nd_idx hnd hj'
    refine rowP_n ⟨h.len, fun j hj => ?_, fun i j hi hj e => ?_, fun j hj x hx => ?_⟩
    · obtain ⟨hj', e, _⟩ := hg j hj
      rw [e]; exact hlt _ (List.getElem_mem hj')
    · obtain ⟨hi', e1, x1⟩ := hg i hi
      obtain ⟨hj', e2, x2⟩ := hg j hj
      rw [e1, e2] at e
      rw [← x1, ← x2, e]
    · obtain ⟨hj', e, xj⟩ := hg j hj
      rw [e] at hx
      have h1 := h.ord x _ (hlt _ (List.getElem_mem hj')) hx
      rw [xj] at h1
      have hxn : x < n := lt_lt hv.2 hx
      exact ⟨r.idxOf x, h1, idxOf_get (h.all x hxn)⟩
end Go.Proofs.Ytgojkabjgagjcaa
