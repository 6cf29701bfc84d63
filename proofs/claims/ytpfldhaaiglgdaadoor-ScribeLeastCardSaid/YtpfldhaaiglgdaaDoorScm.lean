import Derived.Test.YtpfldhaaiglgdaaDoorSch
import Derived.Test.YtpfldhaaiglgdaaDoorIm
import Derived.Test.YtpfldhaaiglgdaaDoorGa
set_option linter.unusedSimpArgs false
set_option linter.unusedVariables false
set_option linter.unusedSectionVars false
set_option maxRecDepth 20000
namespace Go.Proofs.YtpfldhaaiglgdaaDoor
attribute [local irreducible] QOp aL aC qL
def bl (s : ByteArray) : List Nat := s.data.toList.map UInt8.toNat
theorem bl_len (s : ByteArray) : (bl s).length = s.size := by unfold bl; rw [List.length_map, Array.length_toList]; rfl
theorem bt_bl (s : ByteArray) (i : Nat) : bt s i = (bl s).getD i 0 := by
  unfold bt
  split
  · rename_i h
    have : i < (bl s).length := by rw [bl_len]; exact h
    rw [List.getD_eq_getElem?_getD, List.getElem?_eq_getElem this, Option.getD_some]
    simp only [bl, List.getElem_map, Array.getElem_toList]
    rfl
  · rename_i h
    rw [List.getD_eq_getElem?_getD, List.getElem?_eq_none (by rw [bl_len]; omega)]; rfl
theorem bl_app (x y : ByteArray) : bl (x ++ y) = bl x ++ bl y := by
  unfold bl
  rw [ByteArray.data_append, Array.toList_append, List.map_append]
theorem bl_dg : ∀ m, m < 10 → bl (dgS m) = [48 + m] := by decide
theorem bl_dg10 : bl (dgS 10) = [49, 48] := by decide
def pB (p : Nat × Nat) : List Nat := [32, 48 + p.1, 60, 48 + p.2]
theorem bl_prS {n : Nat} {L : List (Nat × Nat)} (hL : ∀ p ∈ L, p.1 < 10 ∧ p.2 < 10) : ∀ k, k ≤ L.length → bl (prS n L k) = bl (dgS n) ++ [58] ++ (L.take k).flatMap pB
  | 0, _ => by
    show bl (dgS n ++ ByteArray.mk #[58]) = _
    rw [bl_app]
    simp
    rfl
  | k + 1, hk => by
    have hm := hL _ (List.getElem_mem (show k < L.length by omega))
    have e : L.getD k (0, 0) = L[k]'(by omega) := by rw [List.getD_eq_getElem?_getD, List.getElem?_eq_getElem (by omega)]; rfl
    rw [prS_succ n L k (by omega), bl_app, bl_prS hL k (by omega), e, bl_app, bl_app, bl_app, bl_dg _ hm.1, bl_dg _ hm.2, List.take_succ_eq_append_getElem (by omega), List.flatMap_append]
    simp [pB]
    rfl
theorem fm_len : ∀ L : List (Nat × Nat), (L.flatMap pB).length = 4 * L.length
  | [] => rfl
  | p :: L => by rw [List.flatMap_cons, List.length_append, fm_len L]; show 4 + 4 * L.length = 4 * (L.length + 1); omega
theorem fm_get : ∀ (L : List (Nat × Nat)) (i j : Nat), i < L.length → j < 4 → (L.flatMap pB).getD (4 * i + j) 0 = (pB (L.getD i (0, 0))).getD j 0
  | [], i, j, h, _ => by simp at h
  | p :: L, 0, j, _, hj => by
    rw [List.flatMap_cons, List.getD_eq_getElem?_getD, List.getElem?_append_left (by show 4 * 0 + j < 4; omega), List.getD_eq_getElem?_getD]
    rw [show 4 * 0 + j = j by omega]; rfl
  | p :: L, i + 1, j, h, hj => by
    have ih := fm_get L i j (by simpa using h) hj
    rw [List.flatMap_cons, List.getD_eq_getElem?_getD, List.getElem?_append_right (by show 4 ≤ 4 * (i + 1) + j; omega)]
    rw [show 4 * (i + 1) + j - (pB p).length = 4 * i + j by show 4 * (i + 1) + j - 4 = _; omega, ← List.getD_eq_getElem?_getD, ih]
    rfl
theorem Dg.uniq {s : ByteArray} {p e e' : Nat} (h : Dg s p e) (h' : Dg s p e') : e = e' := by
  rcases Nat.lt_trichotomy e e' with q | q | q
  · exact absurd (h'.dig e h.le q) (h.stop (Nat.lt_of_lt_of_le q h'.end'))
  · exact q
  · exact absurd (h.dig e' h'.le q) (h'.stop (Nat.lt_of_lt_of_le q h.end'))
theorem num_one {s : ByteArray} {p : Nat} {most er : Int} (hp : p < s.size) (hd : 48 ≤ bt s p ∧ bt s p ≤ 57) (hst : p + 1 < s.size → ¬ (48 ≤ bt s (p + 1) ∧ bt s (p + 1) ≤ 57)) (hm : ((bt s p - 48 : Nat) : Int) ≤ most) : numR s p most er = .inr (bt s p - 48, p + 1) := by
  have h1 : Dg s p (p + 1) := ⟨by omega, by omega, fun i hi1 hi2 => by
    obtain rfl : i = p := by omega
    exact hd, hst⟩
  have h2 := (dE_dg (s := s) s.size p (by omega) (by omega)).uniq h1
  have hcv : cv s p (p + 1 - p) = bt s p - 48 := by
    rw [show p + 1 - p = 1 by omega]
    show min (0 * 10 + (bt s (p + 0) - 48)) 11 = _
    rw [Nat.add_zero]; omega
  unfold numR
  rw [h2, if_neg (by omega), if_neg (by omega), hcv, if_neg (by omega)]
/-- Where what is printed holds what. -/
theorem pr_at {n : Nat} {L : List (Nat × Nat)} (hL : ∀ p ∈ L, p.1 < 10 ∧ p.2 < 10) {i j : Nat} (hi : i < L.length) (hj : j < 4) : bt (prS n L L.length) ((bl (dgS n)).length + 1 + (4 * i + j)) = (pB (L.getD i (0, 0))).getD j 0 := by
  rw [bt_bl, bl_prS hL _ (Nat.le_refl _), List.take_length, List.getD_eq_getElem?_getD, List.getElem?_append_right (by simp)]
  have e : (bl (dgS n)).length + 1 + (4 * i + j) - (bl (dgS n) ++ [58]).length = 4 * i + j := by rw [List.length_append, List.length_singleton]; omega
  rw [e, ← List.getD_eq_getElem?_getD, fm_get L i j hi hj]
theorem pr_size {n : Nat} {L : List (Nat × Nat)} (hL : ∀ p ∈ L, p.1 < 10 ∧ p.2 < 10) : (prS n L L.length).size = (bl (dgS n)).length + 1 + 4 * L.length := by
  rw [← bl_len, bl_prS hL _ (Nat.le_refl _), List.take_length, List.length_append, fm_len]
  simp
theorem pr_head {n : Nat} {L : List (Nat × Nat)} (hL : ∀ p ∈ L, p.1 < 10 ∧ p.2 < 10) {i : Nat} (hi : i < (bl (dgS n)).length + 1) : bt (prS n L L.length) i = (bl (dgS n) ++ [58]).getD i 0 := by
  rw [bt_bl, bl_prS hL _ (Nat.le_refl _), List.getD_eq_getElem?_getD, List.getElem?_append_left (by simpa using hi), List.getD_eq_getElem?_getD]
theorem pr_pairs {n : Nat} (hn : n ≤ 10) {L : List (Nat × Nat)} (hL : ∀ p ∈ L, p.1 < n ∧ p.2 < n) : ∀ (f i : Nat), i ≤ L.length → L.length - i < f → prR (prS n L L.length) n f ((bl (dgS n)).length + 1 + 4 * i) (L.take i) = .inr L
  | 0, i, _, h => by omega
  | f + 1, i, hi, hf => by
    have hL10 : ∀ p ∈ L, p.1 < 10 ∧ p.2 < 10 := fun p hp => by have := hL p hp; omega
    have hsz := pr_size (n := n) hL10
    have hat := fun (i j : Nat) (h1 : i < L.length) (h2 : j < 4) => pr_at (n := n) hL10 h1 h2
    have ihf := fun i (h1 : i ≤ L.length) (h2 : L.length - i < f) => pr_pairs hn hL f i h1 h2
    generalize prS n L L.length = s at *
    generalize (bl (dgS n)).length = h0 at *
    unfold prR
    by_cases hil : i < L.length
    · have hm := hL _ (List.getElem_mem hil)
      have e : L.getD i (0, 0) = L[i]'hil := by rw [List.getD_eq_getElem?_getD, List.getElem?_eq_getElem hil]; rfl
      have b0 := hat i 0 hil (by omega)
      have b1 := hat i 1 hil (by omega)
      have b2 := hat i 2 hil (by omega)
      have b3 := hat i 3 hil (by omega)
      rw [e] at b0 b1 b2 b3
      generalize hp : L[i]'hil = p at *
      simp only [pB, List.getD_cons_zero, List.getD_cons_succ] at b0 b1 b2 b3
      have p1 : h0 + 1 + 4 * i + 1 = h0 + 1 + (4 * i + 1) := by omega
      have p2 : h0 + 1 + (4 * i + 1) + 1 = h0 + 1 + (4 * i + 2) := by omega
      have p3 : h0 + 1 + (4 * i + 2) + 1 = h0 + 1 + (4 * i + 3) := by omega
      have p4 : h0 + 1 + (4 * i + 3) + 1 = h0 + 1 + 4 * (i + 1) := by omega
      have n1 : numR s (h0 + 1 + (4 * i + 1)) ((n : Int) - 1) 3 = .inr (p.1, h0 + 1 + (4 * i + 2)) := by
        have := num_one (s := s) (p := h0 + 1 + (4 * i + 1)) (most := (n : Int) - 1) (er := 3) (by omega) (by rw [b1]; omega) (fun _ => by rw [p2, b2]; omega) (by rw [b1]; omega)
        rw [this, b1, p2, show 48 + p.1 - 48 = p.1 by omega]
      have n2 : numR s (h0 + 1 + (4 * i + 3)) ((n : Int) - 1) 3 = .inr (p.2, h0 + 1 + 4 * (i + 1)) := by
        have := num_one (s := s) (p := h0 + 1 + (4 * i + 3)) (most := (n : Int) - 1) (er := 3) (by omega) (by rw [b3]; omega) (fun hq => by
          rw [p4] at hq ⊢
          have := hat (i + 1) 0 (by omega) (by omega)
          rw [show h0 + 1 + (4 * (i + 1) + 0) = h0 + 1 + 4 * (i + 1) by omega] at this
          rw [this]
          show ¬ (48 ≤ 32 ∧ 32 ≤ 57)
          omega) (by rw [b3]; omega)
        rw [this, b3, p4, show 48 + p.2 - 48 = p.2 by omega]
      rw [if_pos (by omega), if_pos (by simpa using b0), p1, n1]
      dsimp only
      rw [if_pos ⟨by omega, b2⟩, p3, n2]
      dsimp only
      have ih := ihf (i + 1) (by omega) (by omega)
      have et : L.take i ++ [(p.1, p.2)] = L.take (i + 1) := by rw [List.take_succ_eq_append_getElem hil, hp]
      rw [et]
      exact ih
    · obtain rfl : i = L.length := by omega
      rw [if_neg (by omega), List.take_length]
theorem pr_read {n : Nat} (hn : n ≤ 10) {L : List (Nat × Nat)} (hL : ∀ p ∈ L, p.1 < n ∧ p.2 < n) (hlen : L.length ≤ 100) : rdR (prS n L L.length) = .inr (n, L) := by
  have hL10 : ∀ p ∈ L, p.1 < 10 ∧ p.2 < 10 := fun p hp => by have := hL p hp; omega
  have hsz := pr_size (n := n) hL10
  have hp := pr_pairs hn hL (L.length + 1) 0 (Nat.zero_le _) (by omega)
  rw [List.take_zero, Nat.mul_zero, Nat.add_zero] at hp
  have hh := fun i (h : i < (bl (dgS n)).length + 1) => pr_head (n := n) hL10 h
  -- the fuel may be more
  have fuel : ∀ f, L.length < f → prR (prS n L L.length) n f ((bl (dgS n)).length + 1) [] = .inr L := fun f hf => by
    have := pr_pairs hn hL f 0 (Nat.zero_le _) (by omega)
    rwa [List.take_zero, Nat.mul_zero, Nat.add_zero] at this
  clear hp
  have hl2 : (bl (dgS n)).length = (if n < 10 then 1 else 2) := by
    by_cases h : n < 10
    · rw [if_pos h, bl_dg n h]; rfl
    · obtain rfl : n = 10 := by omega
      rw [if_neg h, bl_dg10]; rfl
  have key : numR (prS n L L.length) 0 10 2 = .inr (n, (bl (dgS n)).length) ∧ bt (prS n L L.length) (bl (dgS n)).length = 58 := by
    by_cases h : n < 10
    · have e := bl_dg n h
      have l1 : (bl (dgS n)).length = 1 := by rw [e]; rfl
      have q0 := hh 0 (by omega)
      have q1 := hh 1 (by omega)
      rw [e] at q0 q1
      simp only [List.cons_append, List.nil_append, List.getD_cons_zero, List.getD_cons_succ] at q0 q1
      rw [l1] at hsz ⊢
      refine ⟨?_, q1⟩
      have := num_one (s := prS n L L.length) (p := 0) (most := 10) (er := 2) (by omega) (by rw [q0]; omega) (fun _ => by rw [Nat.zero_add, q1]; omega) (by rw [q0]; omega)
      rw [this, q0, show 48 + n - 48 = n by omega]
    · obtain rfl : n = 10 := by omega
      have l1 : (bl (dgS 10)).length = 2 := by rw [bl_dg10]; rfl
      have q0 := hh 0 (by omega)
      have q1 := hh 1 (by omega)
      have q2 := hh 2 (by omega)
      rw [bl_dg10] at q0 q1 q2
      simp only [List.cons_append, List.nil_append, List.getD_cons_zero, List.getD_cons_succ] at q0 q1 q2
      rw [l1] at hsz ⊢
      refine ⟨?_, q2⟩
      generalize prS 10 L L.length = s at *
      have h1 : Dg s 0 2 := ⟨by omega, by omega, fun i hi1 hi2 => by
        have : i = 0 ∨ i = 1 := by omega
        rcases this with rfl | rfl
        · rw [q0]; omega
        · rw [q1]; omega, fun _ => by rw [q2]; omega⟩
      have h2 := (dE_dg (s := s) s.size 0 (by omega) (by omega)).uniq h1
      have hcv : cv s 0 2 = 10 := by
        show min (min (0 * 10 + (bt s (0 + 0) - 48)) 11 * 10 + (bt s (0 + 1) - 48)) 11 = 10
        rw [Nat.zero_add, Nat.zero_add, q0, q1]
        decide
      unfold numR
      rw [h2, if_neg (by omega), if_neg (by rw [q0]; omega), show 2 - 0 = 2 from rfl, hcv, if_neg (by omega)]
  unfold rdR
  rw [if_neg (by rw [hsz, hl2]; split <;> omega), key.1]
  dsimp only
  rw [if_pos ⟨by omega, key.2⟩, fuel _ (by omega)]
/-! How long a text is that is read. -/
theorem prR_len {s : ByteArray} {n : Nat} : ∀ {f p : Nat} {M L : List (Nat × Nat)}, p ≤ s.size → prR s n f p M = .inr L → p + 4 * L.length ≤ s.size + 4 * M.length
  | 0, p, M, L, hp, h => by cases h; omega
  | f + 1, p, M, L, hp, h => by
    unfold prR at h
    split at h
    · split at h
      · split at h
        · cases h
        · rename_i a e hn1
          have c1 := numR_end (by omega) hn1
          split at h
          · split at h
            · cases h
            · rename_i b e2 hn2
              have c2 := numR_end (by omega) hn2
              have := prR_len c2.2.1 h
              rw [List.length_append, List.length_singleton] at this
              omega
          · cases h
      · cases h
    · cases h; omega
theorem rd_len {s : ByteArray} {n : Nat} {L : List (Nat × Nat)} (h : rdR s = .inr (n, L)) : (bl (dgS n)).length + 1 + 4 * L.length ≤ s.size := by
  unfold rdR at h
  split at h
  · cases h
  · split at h
    · cases h
    · rename_i n' e hnum
      have c := numR_end (Nat.zero_le _) hnum
      split at h
      · rename_i hc
        split at h
        · cases h
        · rename_i L' hprs
          cases h
          have := prR_len (by omega) hprs
          rw [List.length_nil] at this
          have hl2 : (bl (dgS n)).length ≤ e := by
            by_cases hq : n < 10
            · rw [bl_dg n hq]; show 1 ≤ e; omega
            · have hn10 : n = 10 := by omega
              rw [hn10, bl_dg10]
              show 2 ≤ e
              apply Classical.byContradiction
              intro hlt
              have hd := dE_dg (s := s) s.size 0 (by omega) (Nat.zero_le _)
              unfold numR at hnum
              split at hnum
              · cases hnum
              · split at hnum
                · cases hnum
                · split at hnum
                  · cases hnum
                  · have e1 := (Prod.mk.inj (Sum.inr.inj hnum)).1
                    have e2 := (Prod.mk.inj (Sum.inr.inj hnum)).2
                    have e3 : dE s s.size 0 = 1 := by omega
                    rw [e3] at e1 hd
                    have hb := hd.dig 0 (Nat.le_refl _) (by omega)
                    have : cv s 0 (1 - 0) = min (0 * 10 + (bt s (0 + 0) - 48)) 11 := rfl
                    rw [this, Nat.add_zero] at e1
                    omega
          omega
      · cases h
theorem nd_leS {α : Type} [DecidableEq α] : ∀ {A L : List α}, A.Nodup → (∀ x ∈ A, x ∈ L) → A.length ≤ L.length
  | [], L, _, _ => Nat.zero_le _
  | a :: A, L, h, hs => by
    rw [List.nodup_cons] at h
    have ha := hs a List.mem_cons_self
    have := nd_leS (A := A) (L := L.erase a) h.2 fun x hx => by
      have : x ≠ a := fun e => h.1 (e ▸ hx)
      exact (List.mem_erase_of_ne this).2 (hs x (List.mem_cons_of_mem _ hx))
    rw [List.length_erase_of_mem ha] at this
    have hpos : 0 < L.length := List.length_pos_of_mem ha
    show A.length + 1 ≤ L.length
    omega
/-- The covers are among the pairs. -/
theorem cvs_in {n : Nat} {L : List (Nat × Nat)} (hL : ∀ p ∈ L, p.1 < n ∧ p.2 < n) : ∀ p ∈ cvs n (clos n L), p ∈ L := fun p hp => by
  obtain ⟨a, b⟩ := p
  obtain ⟨h1, h2, h3, h4⟩ := cvs_mem.1 hp
  have := (clos_iff hL h2).1 h3
  cases this with
  | one h => exact h
  | more h hq =>
    rename_i c
    have hc := (hL _ hq).1
    exact absurd ⟨(clos_iff hL hc).2 h, (clos_iff hL h2).2 (.one hq)⟩ (h4 c hc)
theorem cvs_few {n : Nat} {L : List (Nat × Nat)} (hL : ∀ p ∈ L, p.1 < n ∧ p.2 < n) : (cvs n (clos n L)).length ≤ L.length :=
  nd_leS (prs_pair n) (cvs_in hL)
theorem clos_okS {n : Nat} {l : List (Nat × Nat)} (hin : ∀ p ∈ l, p.1 < n ∧ p.2 < n) (h : irr n (clos n l) = true) : okB n (clos n l) = true := by
  refine okB_all (clos_vld hin).2 fun i hi => ⟨fun j hj k hk => ?_, ?_⟩
  · cases ht : trip (clos n l) i j k
    · rfl
    · exfalso
      unfold trip at ht
      simp only [Bool.and_eq_true, Bool.not_eq_true'] at ht
      obtain ⟨h1, h2, h3⟩ := ht
      have r1 := (clos_iff hin hk).1 h1
      have r2 := (clos_iff hin hi).1 h2
      have := (clos_iff hin hi).2 (r1.trans r2)
      rw [show lt (clos n l) j i = true from this] at h3
      exact Bool.noConfusion h3
  · cases hq : lt (clos n l) i i
    · rfl
    · exact absurd ((clos_iff hin hi).1 hq) ((irr_iff hin).1 h i hi)
end Go.Proofs.YtpfldhaaiglgdaaDoor
