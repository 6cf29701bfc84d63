import Derived.Test.YtbgecpjlopdkfaaDoorEngZzh
set_option linter.unusedSimpArgs false
set_option linter.unusedVariables false
set_option linter.unusedSectionVars false
namespace Go.Proofs.YtbgecpjlopdkfaaDoor
open Go.RowKit
section
variable {P : Program} {ops : Array Oper} {md : Region.Mode} {C S : World → Prop}
def sinkG (md : Region.Mode) (ops : Array Oper) (n : Nat) (L0 fin : Array Bool) : Bool :=
  (List.range ops.size).all fun i => !fin.getD i false || L0.getD i false || (List.range ops.size).any fun j => decide (i < j) && (decide (j = n) || (fin.getD j false && !L0.getD j false)) && Region.waitsFor md ops j i
def chainG (md : Region.Mode) (ops : Array Oper) (n : Nat) (fin : Array Bool) : Bool :=
  (List.range ops.size).all fun t => fin.getD t false || decide (t = n) || (List.range ops.size).any fun j => !fin.getD j false && Region.waitsFor md ops t j
structure HInv (md : Region.Mode) (ops : Array Oper) (L0 fin listed : Array Bool) : Prop where
  size : listed.size = ops.size
  closed : ∀ j oj, ops[j]? = some oj → listed.getD j false = true → ∀ e ∈ oj.after, Region.binds md e = true → listed.getD e.on false = true
  up : ∀ i, L0.getD i false = true → listed.getD i false = true
  sub : ∀ i, listed.getD i false = true → fin.getD i false = true
theorem tail_waitsG {n : Nat} {L0 fin listed : Array Bool} (hs : sinkG md ops n L0 fin = true) (hc : chainG md ops n fin = true) (hnf : fin.getD n false = false) (inv : HInv md ops L0 fin listed) :
    ∀ (d i : Nat), ops.size - i = d → i < ops.size → fin.getD i false = true → listed.getD i true = false → ∀ t, fin.getD t false = false → t ∉ Region.ready md ops listed := by
  intro d
  induction d using Nat.strongRecOn with
  | _ d ih =>
    intro i hd hi hfi hun t ht hr
    obtain ⟨_, ot, hot, hall⟩ := mem_ready.1 hr
    have htlt : t < ops.size := (Array.getElem?_eq_some_iff.1 hot).1
    by_cases htn : t = n
    · subst htn
      have h1 := List.all_eq_true.1 hs i (List.mem_range.2 hi)
      have hL0 : L0.getD i false = false := by
        cases h : L0.getD i false with
        | false => rfl
        | true =>
          have := inv.up i h
          rw [getD_both hun] at this
          cases this
      rw [hfi, hL0] at h1
      simp only [Bool.not_true, Bool.false_or] at h1
      obtain ⟨j, hj, hj2⟩ := List.any_eq_true.1 h1
      simp only [Bool.and_eq_true, decide_eq_true_eq, Bool.or_eq_true] at hj2
      obtain ⟨⟨hij, hj3⟩, hj4⟩ := hj2
      have hjl := List.mem_range.1 hj
      obtain ⟨oj, hoj, e, he, hb, hon⟩ := Region.waitsFor_spec hj4
      by_cases hjt : j = t
      · subst hjt
        have : oj = ot := Option.some.inj (hoj.symm.trans hot)
        subst this
        have h2 := hall e he hb
        rw [hon, getD_both hun] at h2
        cases h2
      · rcases hj3 with hj3 | hj3
        · exact hjt hj3
        · cases hl : listed.getD j false with
          | true =>
            have h2 := inv.closed j oj hoj hl e he hb
            rw [hon, getD_both hun] at h2
            cases h2
          | false =>
            have hjs : j < listed.size := by rw [inv.size]; omega
            exact ih (ops.size - j) (by omega) j rfl hjl hj3.1 (getD_in hjs hl) t ht hr
    · have h1 := List.all_eq_true.1 hc t (List.mem_range.2 htlt)
      rw [ht] at h1
      simp only [Bool.false_or, Bool.or_eq_true, decide_eq_true_eq] at h1
      rcases h1 with h1 | h1
      · exact htn h1
      · obtain ⟨j, hj, hj2⟩ := List.any_eq_true.1 h1
        simp only [Bool.and_eq_true, Bool.not_eq_true'] at hj2
        obtain ⟨o', ho', e, he, hb, hon⟩ := Region.waitsFor_spec hj2.2
        have : o' = ot := Option.some.inj (ho'.symm.trans hot)
        subst this
        have h2 := hall e he hb
        rw [hon] at h2
        have h3 := inv.sub j h2
        rw [hj2.1] at h3
        cases h3
theorem HInv.set {i : Nat} {L0 fin listed : Array Bool} (inv : HInv md ops L0 fin listed) (hi : i ∈ Region.ready md ops listed) (hf : fin.getD i false = true) : HInv md ops L0 fin (listed.setIfInBounds i true) := by
  obtain ⟨_, oi, hoi, hall⟩ := mem_ready.1 hi
  have his : i < listed.size := by rw [inv.size]; exact (Array.getElem?_eq_some_iff.1 hoi).1
  have hset : ∀ j, listed.getD j false = true → (listed.setIfInBounds i true).getD j false = true := fun j hj => by
    by_cases hij : i = j
    · subst hij; simp [his]
    · rw [getD_set_ne false hij]; exact hj
  refine ⟨by simp [inv.size], fun j oj hj hl e he hb => ?_, fun j hj => hset j (inv.up j hj), fun j hj => ?_⟩
  · by_cases hij : i = j
    · subst hij
      have : oj = oi := Option.some.inj (hj.symm.trans hoi)
      subst this
      exact hset _ (hall e he hb)
    · rw [getD_set_ne false hij] at hl
      exact hset _ (inv.closed j oj hj hl e he hb)
  · by_cases hij : i = j
    · subst hij; exact hf
    · rw [getD_set_ne false hij] at hj
      exact inv.sub j hj
def anyHd (P : Program) (md : Region.Mode) (ops : Array Oper) (C : World → Prop) (L : Array Bool → Act → Prop) : Nat → Array Bool → Act → Prop
  | 0, listed, a => L listed a
  | f + 1, listed, a => Region.ready md ops listed ≠ [] ∧ ∀ i ∈ Region.ready md ops listed, qOp P ops C i (anyHd P md ops C L f (listed.setIfInBounds i true)) a
/-- What is not of the stage waits. -/
def Waits (md : Region.Mode) (ops : Array Oper) (L0 fin : Array Bool) : Prop := ∀ listed, HInv md ops L0 fin listed → ∀ i, i < ops.size → fin.getD i false = true → listed.getD i true = false → ∀ t, fin.getD t false = false → t ∉ Region.ready md ops listed
theorem waits_of {n : Nat} {L0 fin : Array Bool} (hs : sinkG md ops n L0 fin = true) (hc : chainG md ops n fin = true) (hnf : fin.getD n false = false) : Waits md ops L0 fin := fun _ inv i hi hf hun t ht => tail_waitsG hs hc hnf inv _ i rfl hi hf hun t ht
theorem anyHd_first {i : Nat} {L0 fin : Array Bool} {oi : Oper} {v : Value} {L : Array Bool → Act → Prop} (hi : ops[i]? = some oi) (hsel : ∀ (j : Nat) (o : Oper) cs b, ops[j]? = some o → o.op ≠ .select cs b)
    (hT : Waits md ops L0 fin) (hif : fin.getD i false = true) (hdone : ∀ listed a, L listed a → ∀ j ∈ Region.ready md ops listed, fin.getD j false = false) :
    ∀ (f : Nat) (listed : Array Bool) (a : Act), HInv md ops L0 fin listed →
      (∀ j oj, ops[j]? = some oj → j ≠ i → listed.getD j true = false → (∀ e ∈ oj.after, Region.binds md e = true → e.on ≠ i) → oi.apart ops oj = true) →
      i ∈ Region.ready md ops listed → YieldsIn P ops C oi v a → anyHd P md ops C L f (listed.setIfInBounds i true) (a.put oi.dst v) → anyHd P md ops C L (f + 1) listed a := by
  have hil : i < ops.size := (Array.getElem?_eq_some_iff.1 hi).1
  intro f
  induction f with
  | zero =>
    intro listed a inv _ hr hy H
    have hun := (mem_ready.1 hr).1
    refine ⟨fun h => (by rw [h] at hr; cases hr), fun j hj => ?_⟩
    by_cases hji : j = i
    · subst hji; exact hy.qOp hi H
    · have h1 := hdone _ _ H j (ready_mono hj hji)
      exact absurd hj (hT _ inv i hil hif hun j h1)
  | succ f ih =>
    intro listed a inv hfree hr hy H
    have hun := (mem_ready.1 hr).1
    refine ⟨fun h => (by rw [h] at hr; cases hr), fun j hj => ?_⟩
    have hjf : fin.getD j false = true := by
      cases h : fin.getD j false with
      | true => rfl
      | false => exact absurd hj (hT _ inv i hil hif hun j h)
    by_cases hji : j = i
    · subst hji; exact hy.qOp hi H
    · have h1 := H.2 j (ready_mono hj hji)
      obtain ⟨hjun, oj, hoj, hall⟩ := mem_ready.1 hj
      have hnot : ∀ e ∈ oj.after, Region.binds md e = true → e.on ≠ i := fun e he hb heq => by
        have h1 := hall e he hb
        rw [heq, getD_both hun] at h1
        cases h1
      have h2 := qOp_put hoj (hfree j oj hoj hji hjun hnot) (fun cs b => hsel i oi cs b hi) (fun cs b => hsel j oj cs b hoj) hy h1
      have hfree' : ∀ k ok, ops[k]? = some ok → k ≠ i → (listed.setIfInBounds j true).getD k true = false →
          (∀ e ∈ ok.after, Region.binds md e = true → e.on ≠ i) → oi.apart ops ok = true := fun k ok hk hki hun hno => by
        refine hfree k ok hk hki ?_ hno
        by_cases hjk : j = k
        · subst hjk; exact hjun
        · rw [getD_set_ne true hjk] at hun; exact hun
      refine qOp_mono (fun a' h3 => ih (listed.setIfInBounds j true) a' (inv.set hj hjf) hfree' (ready_mono hr (Ne.symm hji)) h3.1 ?_) h2
      rw [Array.setIfInBounds_comm _ _ hji]
      exact h3.2
def lexTo (md : Region.Mode) (ops : Array Oper) (fin : Array Bool) : List Nat → Array Bool → Bool
  | [], listed => decide (listed = fin) && (Region.ready md ops listed).all fun j => !fin.getD j false
  | k :: is, listed => (Region.ready md ops listed).contains k && Region.free md ops listed k && fin.getD k false && lexTo md ops fin is (listed.setIfInBounds k true)
theorem lexTo_fin {fin : Array Bool} : ∀ (is : List Nat) (listed : Array Bool), lexTo md ops fin is listed = true → ∀ j ∈ Region.ready md ops fin, fin.getD j false = false
  | [], listed, h => by
    simp only [lexTo, Bool.and_eq_true, decide_eq_true_eq, List.all_eq_true, Bool.not_eq_true'] at h
    obtain ⟨rfl, h2⟩ := h
    exact h2
  | k :: is, listed, h => by
    simp only [lexTo, Bool.and_eq_true] at h
    exact lexTo_fin is _ h.2
theorem anyHd_lex {L0 fin : Array Bool} {Lq : Act → Prop} (hsel : Region.noSelect ops = true) (hT : Waits md ops L0 fin) :
    ∀ (is : List Nat) (l : List Oper) (listed : Array Bool) (a : Act), is.map (fun i => ops[i]?) = l.map some → HInv md ops L0 fin listed →
    lexTo md ops fin is listed = true → wpQuiet P ops C Lq l a →
    anyHd P md ops C (fun listed' a' => listed' = fin ∧ Lq a') is.length listed a
  | [], l, listed, a, hl, _, hB, h => by
    cases l with
    | nil =>
      simp only [lexTo, Bool.and_eq_true, decide_eq_true_eq] at hB
      exact ⟨hB.1, h⟩
    | cons _ _ => cases hl
  | k :: is, [], listed, a, hl, inv, hB, h => by cases hl
  | k :: is, o :: l, listed, a, hl, inv, hB, h => by
    rw [List.map_cons, List.map_cons] at hl
    obtain ⟨h0, hl'⟩ := List.cons.inj hl
    simp only [lexTo, Bool.and_eq_true] at hB
    obtain ⟨⟨⟨hr, hf⟩, hkf⟩, hB'⟩ := hB
    have hr' : k ∈ Region.ready md ops listed := by simpa using hr
    have hst : qOp P ops C k (wpQuiet P ops C Lq l) a := by unfold qOp; simp only [h0]; exact h
    obtain ⟨v, hy, hK⟩ := yieldsIn_of_qOp h0 hst
    have hfin := lexTo_fin _ _ hB'
    exact anyHd_first h0 (Region.noSelect_spec hsel) hT hkf (fun listed' a' hL j hj => by rw [hL.1] at hj; exact hfin j hj) is.length listed a inv (Region.free_spec h0 hf) hr' hy
      (anyHd_lex hsel hT is l _ _ hl' (inv.set hr' hkf) hB' hK)
theorem anyH_of_hd {g : Nat} {L : Array Bool → Act → Prop} {Q' : Exit → Act → World → Prop} (hS : ∀ w, C w → S w) (hL : ∀ listed a w, C w → L listed a → wpAnyH P md ops Q' S g listed a w) :
    ∀ (f : Nat) (listed : Array Bool) (a : Act) (w : World), C w → anyHd P md ops C L f listed a → wpAnyH P md ops Q' S (f + g) listed a w
  | 0, listed, a, w, hw, h => by rw [Nat.zero_add]; exact hL _ _ _ hw h
  | f + 1, listed, a, w, hw, h => by
    rw [show f + 1 + g = (f + g) + 1 by omega]
    exact ⟨fun h0 => absurd h0 h.1, fun i hi => wpOp_of_qOp hw (fun a' w' hw' h' => ⟨hS w' hw', anyH_of_hd hS hL f _ a' w' hw' h'⟩) (h.2 i hi)⟩
def invG (md : Region.Mode) (ops : Array Oper) (fin listed : Array Bool) : Bool :=
  decide (listed.size = ops.size) && ((List.range ops.size).all fun j => !listed.getD j false || (match ops[j]? with | some oj => oj.after.all fun e => !Region.binds md e || listed.getD e.on false | none => true)) && (List.range ops.size).all fun t => !listed.getD t false || fin.getD t false
theorem invG_spec {fin listed : Array Bool} (h : invG md ops fin listed = true) : HInv md ops listed fin listed := by
  simp only [invG, Bool.and_eq_true, decide_eq_true_eq, List.all_eq_true, List.mem_range, Bool.or_eq_true, Bool.not_eq_true'] at h
  obtain ⟨⟨h1, h2⟩, h3⟩ := h
  refine ⟨h1, fun j oj hj hl e he hb => ?_, fun _ h => h, fun t ht => ?_⟩
  · rcases h2 j (Array.getElem?_eq_some_iff.1 hj).1 with h4 | h4
    · rw [hl] at h4; cases h4
    · rw [hj] at h4
      simp only [Array.all_eq_true_iff_forall_mem] at h4
      have := h4 e he
      rw [hb] at this
      simpa using this
  · rcases Nat.lt_or_ge t ops.size with hts | hts
    · rcases h3 t hts with h4 | h4
      · rw [ht] at h4; cases h4
      · exact h4
    · simp [Array.getElem?_eq_none (show listed.size ≤ t by omega)] at ht
def stgB (ops : Array Oper) (n : Nat) (is : List Nat) (listed fin : Array Bool) : Bool :=
  Region.noSelect ops && sinkG .any ops n listed fin && chainG .any ops n fin && invG .any ops fin listed && lexTo .any ops fin is listed && !fin.getD n false
end
section
variable {P : Program} {k : Nat} {cx : Cx k} {ops : Array Oper} {st : St} {K : St → Prop} {S : World → Prop}
theorem fm_map {α β : Type} (f : α → Option β) : ∀ (l : List α) (r : List β), l.filterMap f = r → l.length = r.length → l.map f = r.map some
  | [], r, h, _ => by subst h; rfl
  | x :: l, r, h, hl => by
    subst h
    cases hx : f x with
    | none =>
      exfalso
      have h1 := List.length_filterMap_le f l
      rw [List.filterMap_cons_none hx, List.length_cons] at hl
      omega
    | some o =>
      rw [List.filterMap_cons_some hx, List.length_cons, List.length_cons] at hl
      rw [List.filterMap_cons_some hx, List.map_cons, List.map_cons, hx, fm_map f l _ rfl (by omega)]
/-- A stage: the operations of the list, up to n, only read. -/
theorem xh_stage [Zs] {F g : Nat} {listed fin : List Bool} (n : Nat) (is : List Nat) {l1 : List Oper} (hB : stgB ops n is listed.toArray fin.toArray = true) (hl : is.filterMap (fun i => ops[i]?) = l1) (hf : is.length = l1.length) (hF : F = is.length + g)
    (h : qL P ops (fun st' => xH P cx ops K S g fin st') l1 st) : xH P cx ops K S F listed st := by
  subst hF
  simp only [stgB, Bool.and_eq_true, Bool.not_eq_true'] at hB
  obtain ⟨⟨⟨⟨⟨b1, b3⟩, b4⟩, b5⟩, b6⟩, b7⟩ := hB
  have hmap : is.map (fun i => ops[i]?) = l1.map some := fm_map (fun i => ops[i]?) is l1 hl hf
  intro hS a w hr
  obtain ⟨ρ, hb, hfo, h0⟩ := hr.base
  have H := anyHd_lex (P := P) (C := Below w.heap.size w) (md := .any) (L0 := listed.toArray) (fin := fin.toArray) b1 (waits_of b3 b4 b7) is l1 listed.toArray a hmap (invG_spec b5) b6 (h ρ w a hb)
  exact anyH_of_hd (P := P) (S := S) (g := g) (Q' := lift cx (ThenK K)) (fun w' hw' => hS w' (hr.mono hw').same) (fun listed' a' w' hw' hL => by
    obtain ⟨rfl, st', hK, ho, hb'⟩ := hL
    refine hK hS a' w' ⟨⟨ρ, hb'.mono hw', ?_, h0⟩, (hr.mono hw').same⟩
    rw [ho]; exact hfo) _ _ _ w (Below.refl _ _) H
def reB (ops : Array Oper) (is : List Nat) (listed fin : Array Bool) : Bool :=
  Region.noSelect ops && ((List.range ops.size).all fun t => fin.getD t false) && invG .any ops fin listed && lexTo .any ops fin is listed && (Region.ready .any ops fin).isEmpty
end
end Go.Proofs.YtbgecpjlopdkfaaDoor
