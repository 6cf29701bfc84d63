import Derived.Test.YtgojkabjgagjcaaDoorGu
import Derived.Test.YtgojkabjgagjcaaDoorCa
import Derived.Test.YtgojkabjgagjcaaDoorCd
import Derived.Test.YtgojkabjgagjcaaDoorEngZf
import Derived.Test.YtgojkabjgagjcaaDoorEngZd
import Derived.Test.YtgojkabjgagjcaaDoorEngT
import Derived.Laws.CopyRow
set_option linter.unusedSimpArgs false
set_option linter.unusedVariables false
set_option linter.unusedSectionVars false
set_option maxRecDepth 20000
namespace Go.Proofs.YtgojkabjgagjcaaDoor
attribute [local irreducible] QOp aL aC qL
/-- The set of the first of a list. -/
def rsN (l : List Nat) : Nat → Nat
  | 0 => 0
  | k + 1 => rsN l k ||| 2 ^ l.getD k 0
def okAt (n : Nat) (ns : List Nat) (l : List Int) (j : Nat) : Bool := (decide (0 ≤ l.getD j 0) && decide (l.getD j 0 < (n : Int))) && mayO ns (rsN (l.map Int.toNat) j) (l.getD j 0).toNat
def isRow (n : Nat) (ns : List Nat) (l : List Int) : Bool := (List.range l.length).all (okAt n ns l) && decide (l.length = n)
theorem isRow_all {n : Nat} {ns : List Nat} {l : List Int} (h : ∀ j, j < l.length → okAt n ns l j = true) : isRow n ns l = decide (l.length = n) := by
  unfold isRow
  rw [List.all_eq_true.2 fun j hj => h j (List.mem_range.1 hj), Bool.true_and]
theorem map_getI (l : List Int) (q : Nat) : (l.map Int.toNat).getD q 0 = (l.getD q 0).toNat := by
  simp only [List.getD_eq_getElem?_getD, List.getElem?_map]
  cases l[q]? <;> rfl
theorem isRow_iff {n : Nat} {ns : List Nat} {l : List Int} (h : isRow n ns l = true) : l.length = n ∧ ∀ j, j < n → (0 ≤ l.getD j 0 ∧ l.getD j 0 < (n : Int)) ∧ mayO ns (rsN (l.map Int.toNat) j) (l.getD j 0).toNat = true := by
  unfold isRow at h
  rw [Bool.and_eq_true, decide_eq_true_eq, List.all_eq_true] at h
  refine ⟨h.2, fun j hj => ?_⟩
  have := h.1 j (List.mem_range.2 (by omega))
  unfold okAt at this
  rw [Bool.and_eq_true, Bool.and_eq_true, decide_eq_true_eq, decide_eq_true_eq] at this
  exact this
/-- A row told in numbers that are not negative. -/
structure RowN (n : Nat) (ns : List Nat) (l : List Nat) : Prop where
  len : l.length = n
  lt : ∀ j, j < n → l.getD j 0 < n
  may : ∀ j, j < n → mayO ns (rsN l j) (l.getD j 0) = true
theorem isRow_nat {n : Nat} {ns : List Nat} {l : List Int} (h : isRow n ns l = true) : ∃ r : List Nat, l = nl r ∧ RowN n ns r := by
  obtain ⟨h1, h2⟩ := isRow_iff h
  refine ⟨l.map Int.toNat, ?_, by simpa using h1, fun j hj => ?_, fun j hj => ?_⟩
  · unfold nl
    rw [List.map_map]
    apply List.ext_getElem
    · simp
    · intro i hi hi2
      have := (h2 i (by omega)).1
      rw [List.getD_eq_getElem?_getD, List.getElem?_eq_getElem hi] at this
      simp at this ⊢
      omega
  · rw [map_getI]; have := (h2 j hj).1; omega
  · rw [map_getI]; exact (h2 j hj).2
theorem rs_lt {n : Nat} {ns l : List Nat} (h : RowN n ns l) : ∀ j, j ≤ n → rsN l j < 2 ^ n
  | 0, _ => Nat.pow_pos (by decide)
  | j + 1, hj => Nat.or_lt_two_pow (rs_lt h j (by omega)) (Nat.pow_lt_pow_right (by decide) (h.lt j (by omega)))
end Go.Proofs.YtgojkabjgagjcaaDoor
set_option linter.unusedSimpArgs false
set_option linter.unusedVariables false
set_option linter.unusedSectionVars false
set_option maxRecDepth 20000
namespace Go.Proofs.YtgojkabjgagjcaaDoor
attribute [local irreducible] QOp aL aC qL
attribute [local irreducible] FOp POp hL xH
/-- May two neighbours change their places? -/
def swB (ns l : List Nat) (k : Nat) : Bool := !lt ns (l.getD k 0) (l.getD (k + 1) 0) && !lt ns (l.getD (k + 1) 0) (l.getD k 0)
def swN (ns l : List Nat) (k : Nat) : List Nat := if swB ns l k = true then (l.set k (l.getD (k + 1) 0)).set (k + 1) (l.getD k 0) else l
theorem swN_len (ns l : List Nat) (k : Nat) : (swN ns l k).length = l.length := by
  unfold swN; split <;> simp
/-- All of a row are points. -/
def Pts (n : Nat) (l : List Nat) : Prop := l.length = n ∧ ∀ j, j < n → l.getD j 0 < n
theorem Pts.sw {n k : Nat} {ns l : List Nat} (h : Pts n l) (hk : k + 1 < n) : Pts n (swN ns l k) := by
  refine ⟨by rw [swN_len]; exact h.1, fun j hj => ?_⟩
  unfold swN
  split
  · have h1 := h.2 k (by omega)
    have h2 := h.2 (k + 1) hk
    have h3 := h.2 j hj
    have hl := h.1
    simp only [List.getD_eq_getElem?_getD] at *
    by_cases e1 : k + 1 = j
    · subst e1
      rw [List.getElem?_set_self (by rw [List.length_set]; omega)]; exact h1
    · rw [List.getElem?_set_ne e1]
      by_cases e2 : k = j
      · subst e2
        rw [List.getElem?_set_self (by omega)]; exact h2
      · rw [List.getElem?_set_ne e2]; exact h3
  · exact h.2 j hj
def upN (ns l : List Nat) : Nat → List Nat
  | 0 => l
  | k + 1 => swN ns (upN ns l k) k
theorem Pts.up {n : Nat} {ns l : List Nat} (h : Pts n l) : ∀ k, k + 1 ≤ n → Pts n (upN ns l k)
  | 0, _ => h
  | k + 1, hk => (Pts.up h k (by omega)).sw (by omega)
end Go.Proofs.YtgojkabjgagjcaaDoor
set_option linter.unusedSimpArgs false
set_option linter.unusedVariables false
set_option linter.unusedSectionVars false
set_option maxRecDepth 20000
namespace Go.Proofs.YtgojkabjgagjcaaDoor
attribute [local irreducible] QOp aL aC qL
attribute [local irreducible] FOp POp hL xH zL
/-- What the reference swaps: those of which the first is not below the second. -/
def swR (ns l : List Nat) (k : Nat) : List Nat := if lt ns (l.getD k 0) (l.getD (k + 1) 0) = true then l else (l.set k (l.getD (k + 1) 0)).set (k + 1) (l.getD k 0)
theorem swR_len (ns l : List Nat) (k : Nat) : (swR ns l k).length = l.length := by
  unfold swR; split <;> simp
theorem Pts.swR {n k : Nat} {ns l : List Nat} (h : Pts n l) (hk : k + 1 < n) : Pts n (swR ns l k) := by
  refine ⟨by rw [swR_len]; exact h.1, fun j hj => ?_⟩
  unfold Go.Proofs.YtgojkabjgagjcaaDoor.swR
  split
  · exact h.2 j hj
  · have h1 := h.2 k (by omega)
    have h2 := h.2 (k + 1) hk
    have h3 := h.2 j hj
    have hl := h.1
    simp only [List.getD_eq_getElem?_getD] at *
    by_cases e1 : k + 1 = j
    · subst e1
      rw [List.getElem?_set_self (by rw [List.length_set]; omega)]; exact h1
    · rw [List.getElem?_set_ne e1]
      by_cases e2 : k = j
      · subst e2
        rw [List.getElem?_set_self (by omega)]; exact h2
      · rw [List.getElem?_set_ne e2]; exact h3
def upR (ns l : List Nat) : Nat → List Nat
  | 0 => l
  | k + 1 => swR ns (upR ns l k) k
theorem Pts.upR {n : Nat} {ns l : List Nat} (h : Pts n l) : ∀ k, k + 1 ≤ n → Pts n (upR ns l k)
  | 0, _ => h
  | k + 1, hk => (Pts.upR h k (by omega)).swR (by omega)
end Go.Proofs.YtgojkabjgagjcaaDoor
set_option linter.unusedSimpArgs false
set_option linter.unusedVariables false
set_option linter.unusedSectionVars false
set_option maxRecDepth 20000
namespace Go.Proofs.YtgojkabjgagjcaaDoor
attribute [local irreducible] QOp aL aC qL
theorem rs_bit (l : List Nat) (x : Nat) : ∀ j, (rsN l j).testBit x = true ↔ ∃ i, i < j ∧ l.getD i 0 = x
  | 0 => by
    rw [rsN, Nat.zero_testBit]
    exact ⟨fun h => (Bool.false_ne_true h).elim, fun ⟨i, h, _⟩ => (Nat.not_lt_zero i h).elim⟩
  | j + 1 => by
    rw [rsN, Nat.testBit_or, Nat.testBit_two_pow, Bool.or_eq_true, rs_bit l x j, decide_eq_true_eq]
    constructor
    · rintro (⟨i, hi, h⟩ | h)
      · exact ⟨i, by omega, h⟩
      · exact ⟨j, by omega, h⟩
    · rintro ⟨i, hi, h⟩
      by_cases hij : i = j
      · subst hij; exact .inr h
      · exact .inl ⟨i, by omega, h⟩
structure RowP (n : Nat) (ns l : List Nat) : Prop where
  len : l.length = n
  pt : ∀ j, j < n → l.getD j 0 < n
  inj : ∀ i j, i < n → j < n → l.getD i 0 = l.getD j 0 → i = j
  down : ∀ j, j < n → ∀ x, lt ns x (l.getD j 0) = true → ∃ i, i < j ∧ l.getD i 0 = x
theorem rowN_p {n : Nat} {ns l : List Nat} (h : RowN n ns l) : RowP n ns l := by
  have hm : ∀ j, j < n → (∀ i, i < j → l.getD i 0 ≠ l.getD j 0) ∧ ∀ x, lt ns x (l.getD j 0) = true → ∃ i, i < j ∧ l.getD i 0 = x := by
    intro j hj
    have := h.may j hj
    unfold mayO at this
    rw [Bool.and_eq_true, Bool.not_eq_true', sub_iff] at this
    refine ⟨fun i hi he => ?_, fun x hx => ?_⟩
    · have h2 := (rs_bit l (l.getD j 0) j).2 ⟨i, hi, he⟩
      rw [this.1] at h2; cases h2
    · exact (rs_bit l x j).1 (this.2 x hx)
  refine ⟨h.len, h.lt, fun i j hi hj he => ?_, fun j hj => (hm j hj).2⟩
  rcases Nat.lt_trichotomy i j with h1 | h1 | h1
  · exact absurd he ((hm j hj).1 i h1)
  · exact h1
  · exact absurd he.symm ((hm i hi).1 j h1)
theorem rowP_n {n : Nat} {ns l : List Nat} (h : RowP n ns l) : RowN n ns l := by
  refine ⟨h.len, h.pt, fun j hj => ?_⟩
  unfold mayO
  rw [Bool.and_eq_true, Bool.not_eq_true', sub_iff]
  refine ⟨?_, fun x hx => (rs_bit l x j).2 (h.down j hj x hx)⟩
  cases hq : (rsN l j).testBit (l.getD j 0)
  · rfl
  · obtain ⟨i, hi, he⟩ := (rs_bit l _ j).1 hq
    have := h.inj i j (by omega) hj he
    omega
theorem sw_get {l : List Nat} {k a b : Nat} (hk : k + 1 < l.length) (j : Nat) : ((l.set k b).set (k + 1) a).getD j 0 = if j = k + 1 then a else if j = k then b else l.getD j 0 := by
  simp only [List.getD_eq_getElem?_getD]
  by_cases e1 : j = k + 1
  · subst e1
    rw [if_pos rfl, List.getElem?_set_self (by rw [List.length_set]; omega)]; rfl
  · rw [if_neg e1, List.getElem?_set_ne (Ne.symm e1)]
    by_cases e2 : j = k
    · subst e2
      rw [if_pos rfl, List.getElem?_set_self (by omega)]; rfl
    · rw [if_neg e2, List.getElem?_set_ne (Ne.symm e2)]
theorem RowP.sw {n k : Nat} {ns l : List Nat} (h : RowP n ns l) (hk : k + 1 < n) (hq : lt ns (l.getD k 0) (l.getD (k + 1) 0) = false) : RowP n ns ((l.set k (l.getD (k + 1) 0)).set (k + 1) (l.getD k 0)) := by
  have hl := h.len
  have hg := sw_get (l := l) (k := k) (a := l.getD k 0) (b := l.getD (k + 1) 0) (by omega)
  have hgk := hg k
  have hgk1 := hg (k + 1)
  rw [if_neg (by omega), if_pos rfl] at hgk
  rw [if_pos rfl] at hgk1
  have hgo : ∀ j, j ≠ k → j ≠ k + 1 → ((l.set k (l.getD (k + 1) 0)).set (k + 1) (l.getD k 0)).getD j 0 = l.getD j 0 := fun j h1 h2 => by rw [hg j, if_neg h2, if_neg h1]
  have hlen : ((l.set k (l.getD (k + 1) 0)).set (k + 1) (l.getD k 0)).length = n := by simp [hl]
  clear hg
  generalize (l.set k (l.getD (k + 1) 0)).set (k + 1) (l.getD k 0) = l' at *
  -- the place where it was
  have hτ : ∀ j, j < n → ∃ j', j' < n ∧ l'.getD j 0 = l.getD j' 0 ∧ ((j = k ∧ j' = k + 1) ∨ (j = k + 1 ∧ j' = k) ∨ (j ≠ k ∧ j ≠ k + 1 ∧ j' = j)) := by
    intro j hj
    by_cases e1 : j = k
    · subst e1; exact ⟨j + 1, hk, hgk, .inl ⟨rfl, rfl⟩⟩
    · by_cases e2 : j = k + 1
      · subst e2; exact ⟨k, by omega, hgk1, .inr (.inl ⟨rfl, rfl⟩)⟩
      · exact ⟨j, hj, hgo j e1 e2, .inr (.inr ⟨e1, e2, rfl⟩)⟩
  refine ⟨hlen, fun j hj => ?_, fun i j hi hj he => ?_, fun j hj x hx => ?_⟩
  · obtain ⟨j', h1, h2, _⟩ := hτ j hj
    rw [h2]; exact h.pt j' h1
  · obtain ⟨i', h1, h2, h3⟩ := hτ i hi
    obtain ⟨j', h4, h5, h6⟩ := hτ j hj
    rw [h2, h5] at he
    have := h.inj i' j' h1 h4 he
    omega
  · obtain ⟨j', h1, h2, h3⟩ := hτ j hj
    rw [h2] at hx
    obtain ⟨i, hi, hix⟩ := h.down j' h1 x hx
    by_cases e1 : i = k
    · subst e1
      rcases h3 with ⟨e2, e3⟩ | ⟨e2, e3⟩ | ⟨e2, e3, e4⟩
      · subst e3
        rw [hix] at hq
        rw [hq] at hx; cases hx
      · omega
      · exact ⟨i + 1, by omega, by rw [hgk1]; exact hix⟩
    · by_cases e2 : i = k + 1
      · subst e2
        rcases h3 with ⟨e3, e4⟩ | ⟨e3, e4⟩ | ⟨e3, e4, e5⟩
        · omega
        · omega
        · exact ⟨k, by omega, by rw [hgk]; exact hix⟩
      · exact ⟨i, by omega, by rw [hgo i e1 e2]; exact hix⟩
theorem RowP.sw_eq {n k : Nat} {ns l : List Nat} (h : RowP n ns l) (hk : k + 1 < n) : swN ns l k = swR ns l k ∧ RowP n ns (swN ns l k) := by
  have hb : lt ns (l.getD (k + 1) 0) (l.getD k 0) = false := by
    cases hq : lt ns (l.getD (k + 1) 0) (l.getD k 0)
    · rfl
    · obtain ⟨i, hi, he⟩ := h.down k (by omega) _ hq
      have := h.inj i (k + 1) (by omega) hk he
      omega
  unfold swN swR swB
  rw [hb]
  cases hq : lt ns (l.getD k 0) (l.getD (k + 1) 0)
  · exact ⟨by simp, by simpa using h.sw hk hq⟩
  · exact ⟨by simp, by simpa using h⟩
theorem RowP.up_eq {n : Nat} {ns l : List Nat} (h : RowP n ns l) : ∀ m, m + 1 ≤ n → upN ns l m = upR ns l m ∧ RowP n ns (upN ns l m)
  | 0, _ => ⟨rfl, h⟩
  | m + 1, hm => by
    obtain ⟨h1, h2⟩ := RowP.up_eq h m (by omega)
    obtain ⟨h3, h4⟩ := h2.sw_eq (k := m) (by omega)
    exact ⟨by show swN ns (upN ns l m) m = swR ns (upR ns l m) m; rw [← h1]; exact h3, h4⟩
/-- A row promoted, again and again. -/
def itN (n : Nat) (ns l : List Nat) : Nat → List Nat
  | 0 => l
  | j + 1 => upN ns (itN n ns l j) (n - 1)
theorem RowP.up1 {n : Nat} {ns l : List Nat} (h : RowP n ns l) : upN ns l (n - 1) = upR ns l ((n : Int) - 1).toNat ∧ RowP n ns (upN ns l (n - 1)) := by
  rcases Nat.eq_zero_or_pos n with h0 | h0
  · subst h0; exact ⟨rfl, h⟩
  · have := h.up_eq (n - 1) (by omega)
    rw [show ((n : Int) - 1).toNat = n - 1 by omega]
    exact this
theorem RowP.it {n : Nat} {ns l : List Nat} (h : RowP n ns l) : ∀ j, RowP n ns (itN n ns l j)
  | 0 => h
  | j + 1 => (RowP.it h j).up1.2
end Go.Proofs.YtgojkabjgagjcaaDoor
set_option linter.unusedSimpArgs false
set_option linter.unusedVariables false
set_option linter.unusedSectionVars false
set_option maxRecDepth 20000
namespace Go.Proofs.YtgojkabjgagjcaaDoor
attribute [local irreducible] QOp aL aC qL
def rkT (n : Nat) (ns r : List Nat) (i : Nat) : Nat := sumTo (term n (mayO ns) (rsN r i)) (r.getD i 0)
def rkN (n : Nat) (ns r : List Nat) (i : Nat) : Nat := sumTo (rkT n ns r) i
end Go.Proofs.YtgojkabjgagjcaaDoor
set_option linter.unusedSimpArgs false
set_option linter.unusedVariables false
set_option linter.unusedSectionVars false
namespace Go.Proofs.YtgojkabjgagjcaaDoor
open Go.RowKit
section
variable {P : Program} {k : Nat} {cx : Cx k} {ops : Array Oper} {st : St} {K : St → Prop} {S : World → Prop}
/-- What is left, told by listed; nothing but own memory changes. -/
def rL [Zs] (P : Program) {k : Nat} (cx : Cx k) (ops : Array Oper) (K : St → Prop) (f : Nat) (listed : List Bool) (st : St) : Prop :=
  ∀ (ρ : Ids) (w : World) (a : Act), RelB ρ w st a → (∀ id b, foot ρ st.objs id b → b < cx.w0.heap.size → cx.M0 b) → (∀ (id : Nat) l, cx.ρ0[id]? = some l → ρ[id]? = some l) → Same cx.M0 cx.w0 w →
    wpAnyH P .any ops (lift cx (ThenK K)) (Same (Own ρ st.objs) w) f listed.toArray a w
def ROp (P : Program) (o : Oper) (st : St) (av : AV) : Prop :=
  ∀ (_ : Zs) (ρ : Ids) (w : World) (a : Act), RelB ρ w st a → ∃ v, Gm ρ w (Ban ρ st.objs) av v ∧ ∀ w1, Same (Own ρ st.objs) w w1 → (execOp a.eval o).run P w1 = .ok (.value v) w1
theorem POp.r {o : Oper} {av : AV} (h : POp P o st av) : ROp P o st av := fun zs ρ w a hb => by
  obtain ⟨v, h1, h2⟩ := h zs ρ w a hb
  exact ⟨v, h1, fun w1 _ => h2 w1⟩
theorem r_first [Zs] {f : Nat} {listed : List Bool} (i : Nat) {d : Tmp} {op : Op} {ty : TypeId} {pos : String} {af : Array Edge} {av : AV} (hi : ops[i]? = some ⟨some d, op, ty, pos, af, none⟩)
    (hb : (Region.noSelect ops && Region.free .any ops listed.toArray i && (Region.ready .any ops listed.toArray).contains i) = true)
    (hq : ROp P ⟨some d, op, ty, pos, af, none⟩ st av) (hd : Nat.blt d st.n = true) (h : rL P cx ops K f (listed.set i true) (st.put d av)) : rL P cx ops K (f + 1) listed st := by
  simp only [Bool.and_eq_true] at hb
  obtain ⟨⟨b1, b2⟩, b3⟩ := hb
  intro ρ w a hr hf h0 hs
  obtain ⟨v, hg, hv⟩ := hq _ ρ w a hr
  have e : listed.toArray.setIfInBounds i true = (listed.set i true).toArray := by simp
  refine wpAnyH_take hi b1 b2 b3 (fun c a w hp => ?_) (v := v) (.inl ⟨by simp [Region.wanted], hv⟩) (Same.refl _ _) ?_
  · obtain ⟨st', h1, _⟩ := hp
    exact h1.elim
  · rw [e]
    exact h ρ w _ (hr.put hd hg) hf h0 hs
theorem r_frame [Zs] {f : Nat} {listed : List Bool} (h : ∀ (cx1 : Cx st.objs.length) (S : World → Prop), xH P cx1 ops K S f listed st) : rL P cx ops K f listed st := by
  intro ρ w a hr hf h0 hs
  have hg := hr.good
  let cx1 : Cx st.objs.length := ⟨w, Own ρ st.objs, ρ, hg.len⟩
  have hrel : Rel cx1 st a w := ⟨⟨ρ, hr, fun id b hb _ => ⟨id, hb⟩, fun _ _ h => h⟩, Same.refl _ w⟩
  refine anyH_q ?_ ?_ _ _ _ _ (h cx1 (Same (Own ρ st.objs) w) (fun w1 h1 => h1) a w hrel)
  · rintro a' w' ⟨st', hK, hr'⟩
    obtain ⟨ρ', hb', hf', h0'⟩ := hr'.base
    have hsm : Same (Own ρ st.objs) w w' := hr'.same
    refine ⟨st', hK, ⟨ρ', hb', fun id b hb hlt => ?_, fun id l hl => h0' _ _ (h0 id l hl)⟩, hs.trans hsm fun x hx ⟨id, hfo⟩ => hf id x hfo hx⟩
    obtain ⟨id2, h2⟩ := hf' id b hb (Nat.lt_of_lt_of_le hlt hs.size)
    exact hf id2 b h2 hlt
  · intro e he
    funext a' w'
    apply propext
    constructor
    · rintro ⟨st', h1, _⟩
      cases e <;> first | exact absurd rfl he | exact h1.elim
    · rintro ⟨st', h1, _⟩
      cases e <;> first | exact absurd rfl he | exact h1.elim
theorem a_holdR [Zs] {id : Nat} {l : List Oper} {n : Nat} {Q : Exit → St → Prop} (hm : P.follows .mixedOrders = true) (hn : l.length = n) (h : rL P cx l.toArray K n (List.replicate n false) st) : aC P cx (.region id l.toArray true) (thenA K Q) st := by
  subst hn
  refine a_mono (Q := ThenK K) ?_ fun e st h => by cases e <;> first | exact h | exact h.elim
  intro a w hr
  have hr2 := hr.mono (w' := { w with drawn := w.drawn + 1 }) ⟨rfl, rfl, rfl, Nat.le_refl _, fun _ _ => rfl⟩
  obtain ⟨ρ, hb, hf, h0⟩ := hr2.base
  refine wp_region_held (S := Same (Own ρ st.objs) { w with drawn := w.drawn + 1 }) hm ?_
  have := h ρ _ a hb hf h0 hr2.same
  simpa using this
/-! Laws. -/
variable {ty : TypeId} {pos : String} {af : Array Edge} {d : Option Tmp} {g : Option (Nat × Bool)} {T : TypeId} {x : Operand}
theorem R_move {av : AV} (hx : st.ev x = av) : ROp P ⟨d, .move x, ty, pos, af, g⟩ st av := POp.r (P_move hx)
theorem P_fieldAddrR {f off : Nat} {cs : List Dat} {o : Nat} (hx : st.ev x = .rpt cs o) (ht : FlT P T f off) : POp P ⟨d, .fieldAddr T x f, ty, pos, af, g⟩ st (.rpt cs (o + off)) := fun _ ρ w a hr => by
  have h := hr.ev x
  rw [hx] at h
  obtain ⟨ad, us, he, hsp, hM, hc, hd⟩ := h.rpt_inv
  have e : (ad.add o).add off = ad.add (o + off) := add_add' ad _ _
  refine ⟨.pointer (some (ad.add (o + off))), .rpt ad cs (o + off) us hsp hM hc hd, fun w1 => ?_⟩
  simp [execOp, he, run_fieldAt ht, e]
theorem R_fieldAddr_rpt {f off : Nat} {cs : List Dat} {o : Nat} (hx : st.ev x = .rpt cs o) (ht : FlT P T f off) : ROp P ⟨d, .fieldAddr T x f, ty, pos, af, g⟩ st (.rpt cs (o + off)) := POp.r (P_fieldAddrR hx ht)
theorem same_cell {ρ : Ids} {w w1 : World} {objs : List AO} [Zs] {ad : Addr} {j : Nat} {v : Value} (hM : ¬ Ban ρ objs ad.block) (hc : w.cell? (ad.add j) = some v) (hs : Same (Own ρ objs) w w1) : w1.cell? (ad.add j) = some v :=
  hs.cell hc fun h => hM (.inl (by rwa [show (ad.add j).block = ad.block by unfold Addr.add; split <;> rfl] at h))
theorem R_ld_rv {cs : List Dat} {o : Nat} {v : Value} (hx : st.ev x = .rpt cs o) (hc : cs[o]? = some (.val v)) (ht : ScT P T) : ROp P ⟨d, .load T x, ty, pos, af, g⟩ st (.val v) := fun zs ρ w a hr => by
  have h := hr.ev x
  rw [hx] at h
  obtain ⟨ad, us, he, hsp, hM, hcl, hd⟩ := h.rpt_inv
  have hu : us o = v := (show ∀ u, Rd w (Ban ρ st.objs) u (.val v) → u = v from fun u h => by cases h; rfl) _ (hd o _ hc)
  refine ⟨v, .val _, fun w1 hw => ?_⟩
  have := same_cell (hM o (List.getElem?_eq_some_iff.1 hc).1) (hcl o _ hc) hw
  rw [hu] at this
  simp [execOp, he, Instr.loadAt, Instr.sureAddr, run_loadSc ht _ this]
theorem R_ld_rs {cs : List Dat} {o : Nat} {dt : Dat} (hx : st.ev x = .rpt cs o) (hc : cs[o]? = some dt) (ht : ScT P T) : ROp P ⟨d, .load T x, ty, pos, af, g⟩ st (.ro dt) := fun zs ρ w a hr => by
  have h := hr.ev x
  rw [hx] at h
  obtain ⟨ad, us, he, hsp, hM, hcl, hd⟩ := h.rpt_inv
  refine ⟨us o, .ro _ _ (hd o dt hc), fun w1 hw => ?_⟩
  have := same_cell (hM o (List.getElem?_eq_some_iff.1 hc).1) (hcl o _ hc) hw
  simp [execOp, he, Instr.loadAt, Instr.sureAddr, run_loadSc ht _ this]
theorem R_ld_rpa {cs : List Dat} {n : Nat} {out : List AV} (hx : st.ev x = .rpt cs 0) (ht : AgT P T n) (hn : Nat.beq cs.length n = true) (ho : cs.map ofD = out) : ROp P ⟨d, .load T x, ty, pos, af, g⟩ st (.agg out) := fun zs ρ w a hr => by
  subst ho
  have hn := Nat.eq_of_beq_eq_true hn
  have h := hr.ev x
  rw [hx] at h
  obtain ⟨ad, us, he, hsp, hM, hcl, hd⟩ := h.rpt_inv
  refine ⟨.agg ((List.range n).map us).toArray, .agg _ _ (by simp [hn]) fun i av v h1 h2 => ?_, fun w1 hw => ?_⟩
  · simp only [List.getElem?_map, Option.map_eq_some_iff] at h1
    obtain ⟨dt, h3, rfl⟩ := h1
    have hi : i < n := by rw [← hn]; exact (List.getElem?_eq_some_iff.1 h3).1
    simp [hi] at h2
    subst h2
    exact gm_ofD (hd _ dt h3)
  · have := run_loadAgg (P := P) (w := w1) ht (ad.add 0) ((List.range n).map us) (by simp) fun j v hv => by
      simp only [List.getElem?_map, Option.map_eq_some_iff] at hv
      obtain ⟨j', h3, rfl⟩ := hv
      have hj : j < n := by simpa using (List.getElem?_eq_some_iff.1 h3).1
      obtain rfl : j = j' := by simpa [hj] using h3
      have e : (ad.add 0).add j = ad.add j := by rw [add_add', Nat.zero_add]
      rw [e]
      exact same_cell (hM j (by omega)) (hcl j _ (List.getElem?_eq_getElem (by omega))) hw
    simp [execOp, he, Instr.loadAt, Instr.sureAddr, this]
end
section
variable {P : Program} {k : Nat} {cx : Cx k} {ops : Array Oper} {K : St → Prop} {S : World → Prop} {ty : TypeId} {pos : String} {af : Array Edge} {d nn f : Nat} {vars : List (Nat × AV)} {objs objs' : List AO} {listed : List Bool}
theorem rw_first [Zs] (i : Nat) {op : Op} {av : AV} (hi : ops[i]? = some ⟨some d, op, ty, pos, af, none⟩) (hb : (Region.noSelect ops && Region.free .any ops listed.toArray i && (Region.ready .any ops listed.toArray).contains i) = true)
    (hq : ROp P ⟨some d, op, ty, pos, af, none⟩ ⟨nn, vars, objs⟩ av) (hd : Nat.blt d nn = true) (h : rL P cx ops K f (listed.set i true) ⟨nn, (d, av) :: vars, objs⟩) : rL P cx ops K (f + 1) listed ⟨nn, vars, objs⟩ := r_first i hi hb hq hd h
theorem rw_frame [Zs] (h : ∀ (cx1 : Cx objs.length) (S : World → Prop), xH P cx1 ops K S f listed ⟨nn, vars, objs⟩) : rL P cx ops K f listed ⟨nn, vars, objs⟩ := r_frame h
end
/-! copy(key[:], s): key an array variable of whole numbers, s read. -/
def pad (cur ns : List Nat) : List Nat := ns ++ cur.drop ns.length
def natV (l : List Nat) : List AV := l.map fun (v : Nat) => AV.val (.int .i64 v)
end Go.Proofs.YtgojkabjgagjcaaDoor
set_option linter.unusedSimpArgs false
set_option linter.unusedVariables false
set_option linter.unusedSectionVars false
namespace Go.Proofs.YtgojkabjgagjcaaDoor
open Go.RowKit
theorem a_holdRN [Zs] {P : Program} {k : Nat} {cx : Cx k} {st : St} {id : Nat} {l : List Oper} {n : Nat} {Q : Exit → St → Prop} (hm : P.follows .mixedOrders = true) (hn : l.length = n) (h : rL P cx l.toArray (fun st => Q .normal st) n (List.replicate n false) st) : aC P cx (.region id l.toArray true) Q st :=
  a_mono (a_holdR (Q := Q) hm hn h) fun e st h => by cases e <;> exact h
end Go.Proofs.YtgojkabjgagjcaaDoor
set_option linter.unusedSimpArgs false
set_option linter.unusedVariables false
set_option linter.unusedSectionVars false
namespace Go.Proofs.YtgojkabjgagjcaaDoor
open Go.RowKit
variable {P : Program} {st : St} {ty : TypeId} {pos : String} {af : Array Edge} {d : Option Tmp} {g : Option (Nat × Bool)} {T : TypeId} {x : Operand}
theorem P_ixc2 {ix : Operand} {e : TypeId} {cs : List Dat} {i : Int} {o m : Nat} (hx : st.ev x = .ro (.sl 2 cs)) (hi : st.ev ix = .val (.int .i64 i)) (hio : i = (o : Int)) (ht : SlT P T e 2) (hl : cs.length = m * 2) (h : o < m) :
    POp P ⟨d, .indexAddr T x ix, ty, pos, af, g⟩ st (.rpt cs (o * 2)) := fun _ ρ w a hr => by
  have hg := hr.ev x
  rw [hx] at hg
  have hrd : Rd w (Ban ρ st.objs) (a.eval x) (.sl 2 cs) := hg.ro_inv
  obtain ⟨u, hu⟩ : ∃ u, a.eval x = u := ⟨_, rfl⟩
  rw [hu] at hrd
  cases hrd with
  | nil _ => rw [List.length_nil] at hl; omega
  | sl ad n' cap _ _ us hn' hsp hM hc hd =>
    refine ⟨.pointer (some (ad.add (o * 2))), .rpt ad _ _ us trivial hM hc hd, fun w1 => ?_⟩
    have := run_indexAt_slice (P := P) ht ad n' cap .i64 i (by omega) (by omega) w1
    rw [show i.toNat * 2 = o * 2 by omega] at this
    simp only [execOp, hu, hr.evv hi, Sem.run_bind, this, Result.andThen_ok, Sem.run_pure]
theorem R_ix_pn {ix : Operand} {e : TypeId} {l : List (Nat × Nat)} {i : Int} {o : Nat} (hx : st.ev x = pairs (pn l)) (hi : st.ev ix = .val (.int .i64 i)) (ho : i = (o : Int)) (ht : SlT P T e 2) (h : o < l.length) :
    ROp P ⟨d, .indexAddr T x ix, ty, pos, af, g⟩ st (.rpt (pairc (pn l)) (o * 2)) := POp.r (P_ixc2 hx hi ho ht (by rw [pairc_len, pn_len]) h)
theorem R_ld_pn {l : List (Nat × Nat)} {o : Nat} (hx : st.ev x = .rpt (pairc (pn l)) (o * 2)) (hlo : o < l.length) (ht : AgT P T 2) :
    ROp P ⟨d, .load T x, ty, pos, af, g⟩ st (.agg [.val (.int .i64 ((l.getD o (0, 0)).1 : Nat)), .val (.int .i64 ((l.getD o (0, 0)).2 : Nat))]) := fun zs ρ w a hr => by
  have h := hr.ev x
  rw [hx] at h
  obtain ⟨ad, us, he, hsp, hM, hcl, hd⟩ := h.rpt_inv
  have hg := pairc_get (l := pn l) (o := o) (by rw [pn_len]; exact hlo)
  rw [pn_get] at hg
  have hu0 : us (o * 2) = .int .i64 ((l.getD o (0, 0)).1 : Nat) := (show ∀ u v, Rd w (Ban ρ st.objs) u (.val v) → u = v from fun u v h => by cases h; rfl) _ _ (hd _ _ hg.1)
  have hu1 : us (o * 2 + 1) = .int .i64 ((l.getD o (0, 0)).2 : Nat) := (show ∀ u v, Rd w (Ban ρ st.objs) u (.val v) → u = v from fun u v h => by cases h; rfl) _ _ (hd _ _ hg.2)
  refine ⟨.agg #[.int .i64 ((l.getD o (0, 0)).1 : Nat), .int .i64 ((l.getD o (0, 0)).2 : Nat)], .agg _ _ rfl fun i av v h5 h6 => ?_, fun w1 hw => ?_⟩
  · match i, h5, h6 with
    | 0, h5, h6 =>
      obtain rfl := Option.some.inj h5
      obtain rfl := Option.some.inj h6
      exact .val _
    | 1, h5, h6 =>
      obtain rfl := Option.some.inj h5
      obtain rfl := Option.some.inj h6
      exact .val _
  · have l0 := (List.getElem?_eq_some_iff.1 hg.1).1
    have l1 := (List.getElem?_eq_some_iff.1 hg.2).1
    have c0 := same_cell (hM _ l0) (hcl _ _ hg.1) hw
    have c1 := same_cell (hM _ l1) (hcl _ _ hg.2) hw
    rw [hu0] at c0
    rw [hu1] at c1
    have := run_loadAgg (P := P) (w := w1) ht (ad.add (o * 2)) [.int .i64 ((l.getD o (0, 0)).1 : Nat), .int .i64 ((l.getD o (0, 0)).2 : Nat)] rfl fun j v hv => by
      match j, hv with
      | 0, hv => obtain rfl := Option.some.inj hv; rw [add_add']; exact c0
      | 1, hv => obtain rfl := Option.some.inj hv; rw [add_add']; exact c1
    simp [execOp, he, Instr.loadAt, Instr.sureAddr, this]
end Go.Proofs.YtgojkabjgagjcaaDoor
