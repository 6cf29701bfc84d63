import Derived.Test.YtgojkabjgagjcaaEq
import Derived.Test.YtgojkabjgagjcaaCf
import Derived.Test.YtgojkabjgagjcaaFkb
import Derived.Test.YtgojkabjgagjcaaEngZd
import Derived.Test.YtgojkabjgagjcaaCd
import Derived.Test.YtgojkabjgagjcaaEs
import Derived.Test.YtgojkabjgagjcaaIp
import Derived.Laws.Slices
set_option linter.unusedSimpArgs false
set_option linter.unusedVariables false
set_option linter.unusedSectionVars false
set_option maxRecDepth 20000
namespace Go.Proofs.Ytgojkabjgagjcaa
attribute [local irreducible] QOp aL aC qL
theorem mbs_rise {s i j : Nat} (hij : i < j) (hj : j < (mbs s).length) : (mbs s).getD i 0 < (mbs s).getD j 0 := by
  have h := (List.pairwise_lt_range (n := 10)).filter s.testBit
  rw [List.pairwise_iff_getElem] at h
  have hj' : j < (List.filter s.testBit (List.range 10)).length := hj
  have := h i j (Nat.lt_trans hij hj') hj' hij
  unfold mbs
  rw [List.getD_eq_getElem?_getD, List.getD_eq_getElem?_getD, List.getElem?_eq_getElem (Nat.lt_trans hij hj'), List.getElem?_eq_getElem hj']
  exact this
theorem mbs_get {s i : Nat} (hi : i < (mbs s).length) : (mbs s).getD i 0 < 10 ∧ s.testBit ((mbs s).getD i 0) = true := by
  have hi' : i < (List.filter s.testBit (List.range 10)).length := hi
  have := List.mem_filter.1 (List.getElem_mem hi')
  unfold mbs
  rw [List.getD_eq_getElem?_getD, List.getElem?_eq_getElem hi']
  exact ⟨List.mem_range.1 this.1, this.2⟩
theorem mbs_pos {s x : Nat} (hs : s < 1024) (h : s.testBit x = true) : ∃ i, i < (mbs s).length ∧ (mbs s).getD i 0 = x := by
  obtain ⟨i, hi, he⟩ := List.getElem_of_mem ((mbs_mem hs).2 h)
  exact ⟨i, hi, by rw [List.getD_eq_getElem?_getD, List.getElem?_eq_getElem hi]; exact he⟩
/-- Two points stand above one another, or not. -/
def cmp (ns : List Nat) (a b : Nat) : Bool := lt ns a b || lt ns b a
def cnB (ns : List Nat) (c : Bool) (s : Nat) : Bool := (List.range (mbs s).length).all fun i => (List.range i).all fun j => cmp ns ((mbs s).getD i 0) ((mbs s).getD j 0) == c
theorem cn_pos {ns : List Nat} {c : Bool} {s : Nat} : cnB ns c s = true ↔ ∀ i, i < (mbs s).length → ∀ j, j < i → cmp ns ((mbs s).getD i 0) ((mbs s).getD j 0) = c := by
  unfold cnB
  rw [List.all_eq_true]
  constructor
  · intro h i hi j hj
    have := List.all_eq_true.1 (h i (List.mem_range.2 hi)) j (List.mem_range.2 hj)
    exact eq_of_beq this
  · intro h i hi
    rw [List.all_eq_true]
    intro j hj
    rw [h i (List.mem_range.1 hi) j (List.mem_range.1 hj)]
    exact beq_self_eq_true c
theorem cn_iff {ns : List Nat} {c : Bool} {s : Nat} (hs : s < 1024) : cnB ns c s = true ↔ ∀ x y, s.testBit x = true → s.testBit y = true → y < x → cmp ns x y = c := by
  rw [cn_pos]
  constructor
  · intro h x y hx hy hxy
    obtain ⟨i, hi, rfl⟩ := mbs_pos hs hx
    obtain ⟨j, hj, rfl⟩ := mbs_pos hs hy
    rcases Nat.lt_trichotomy j i with h1 | h1 | h1
    · exact h i hi j h1
    · subst h1; omega
    · have := mbs_rise h1 hj; omega
  · intro h i hi j hj
    exact h _ _ (mbs_get hi).2 (mbs_get (Nat.lt_trans hj hi)).2 (mbs_rise hj hi)
theorem anti_all {n : Nat} {ns : List Nat} (hok : okB n ns = true) {s : Nat} (hs : s < 1024) (hsn : s < 2 ^ n) : cnB ns false s = true ↔ ∀ i, i < n → ∀ k, k < n → s.testBit i = true → s.testBit k = true → lt ns i k = false := by
  have hin : ∀ k, s.testBit k = true → k < n := fun k h => by
    rcases Nat.lt_or_ge k n with h1 | h1
    · exact h1
    · rw [Nat.testBit_lt_two_pow (Nat.lt_of_lt_of_le hsn (Nat.pow_le_pow_right (n := 2) (by decide) h1))] at h; cases h
  rw [cn_iff hs]
  constructor
  · intro h i hi k hk h1 h2
    rcases Nat.lt_trichotomy i k with h3 | h3 | h3
    · have := h k i h2 h1 h3
      unfold cmp at this
      rw [Bool.or_eq_false_iff] at this
      exact this.2
    · subst h3; exact okB_irr hok hi
    · have := h i k h1 h2 h3
      unfold cmp at this
      rw [Bool.or_eq_false_iff] at this
      exact this.1
  · intro h x y hx hy _
    unfold cmp
    rw [h x (hin x hx) y (hin y hy) hx hy, h y (hin y hy) x (hin x hx) hy hx]
    rfl
end Go.Proofs.Ytgojkabjgagjcaa
set_option linter.unusedSimpArgs false
set_option linter.unusedVariables false
set_option linter.unusedSectionVars false
set_option maxRecDepth 20000
namespace Go.Proofs.Ytgojkabjgagjcaa
attribute [local irreducible] QOp aL aC qL
theorem Apart_ac (n : Nat) (ns : List Nat) (a b : Nat) (hn : n ≤ 10) (hv : Vld n ns) (ha : a < n) (hb : b < n) : AC Try.prog 15 [ordv n (nl ns), .val (.int .i64 a), .val (.int .i64 b)] [] (.val (.bool (decide (a ≠ b) && !cmp ns a b))) [] := by
  have hbd : ∀ x ∈ ns, x ≤ 9223372036854775807 := fun x hx => by have := hv.2 x hx; have := p2_10 hn; omega
  have hvl := hv.1
  have k1 := Less_ac n ns a b (by omega) (by omega) hbd
  have k2 := Less_ac n ns b a (by omega) (by omega) hbd
  change AC _ _ _ [] (.val (.bool (lt ns a b))) [] at k1
  change AC _ _ _ [] (.val (.bool (lt ns b a))) [] at k2
  unfold cmp
  generalize lt ns a b = b1 at *
  generalize lt ns b a = b2 at *
  cases b1 <;> cases b2
  all_goals
    refine AC.mk (n := 24) (fn := Try.f15) Try.func15 (by kernel_rfl) rfl rfl rfl rfl (fun cx => ?_); dsimp only [argv, Nat.reduceAdd]
    (repeat' (first | refine a_seq ?_ | refine a_ret ?_ | refine a_region ?_ | refine l_nil ?_ | (apply w_q; (focus (first | exact Q_move (by conv => lhs; whnf) | exact Q_assign (by conv => lhs; whnf) | exact Q_load_all rfl rfl KAg.h | exact Q_neq rfl rfl | exact Q_not rfl | exact Q_pick_t rfl (by assumption) (by conv => lhs; whnf) | exact Q_pick_f rfl (by assumption) (by conv => lhs; whnf) | exact Q_pick_t rfl rfl (by conv => lhs; whnf) | exact Q_pick_f rfl rfl (by conv => lhs; whnf))); (focus exact rfl)) | refine w_guard_y rfl rfl rfl (by first | assumption | rfl) ?_ | refine w_guard_n rfl rfl rfl (by first | assumption | rfl) ?_ | (refine w_guard rfl rfl rfl ?_ ?_ <;> (intro h; (try (have hp := of_decide_eq_true h)); (try (have hp := of_decide_eq_false h)); (try contradiction); (try (exfalso; omega)))) | refine w_box rfl rfl (by first|(dsimp only[obA,obB,obD,obE,obF,obG,obI,List.map,AO.sh,AV.sh,AV.shl,Nat.reduceAdd];done)|exact rfl) (by first|(dsimp only[obA,obB,obD,obE,obF,obG,obI,List.map,AO.sh,AV.sh,AV.shl,Nat.reduceAdd];done)|exact rfl) rfl ?_ | (((first | apply w_q); (focus (refine Q_call (.inl ⟨rfl, rfl⟩) (k1) ?_; ((repeat' (first | exact trivial | exact vwR rfl | exact vwRL rfl | exact Vw.ro _ | refine Vw.agg' ?_ | refine ⟨?_, ?_⟩ )); done))); (focus exact rfl))) | (((first | apply w_q); (focus (refine Q_call (.inl ⟨rfl, rfl⟩) (k2) ?_; ((repeat' (first | exact trivial | exact vwR rfl | exact vwRL rfl | exact Vw.ro _ | refine Vw.agg' ?_ | refine ⟨?_, ?_⟩ )); done))); (focus exact rfl))))); (try all_goals (try show retA _ _ _ _ _ _ _))
    all_goals
      refine ⟨[_], [], ⟨resV_tmp (by conv => lhs; whnf), trivial⟩, VwOs.mk (by decide) trivial, ?_, rfl⟩
      exact Vw.bool' (by simp <;> omega)
/-- The least of those with the most points of which something holds. -/
def wdT (P : Nat → Bool) : Nat → Nat
  | 0 => 0
  | k + 1 => if pcTo (wdT P k) 10 < pcTo k 10 ∧ P k = true then k else wdT P k
theorem wdT_lt (P : Nat → Bool) : ∀ k, 0 < k → wdT P k < k
  | 0, h => absurd h (Nat.lt_irrefl _)
  | k + 1, _ => by
    rw [wdT]
    split
    · omega
    · rcases Nat.eq_zero_or_pos k with h | h
      · subst h; exact Nat.zero_lt_one
      · have := wdT_lt P k h; omega
end Go.Proofs.Ytgojkabjgagjcaa
set_option linter.unusedSimpArgs false
set_option linter.unusedVariables false
set_option linter.unusedSectionVars false
set_option maxRecDepth 20000
namespace Go.Proofs.Ytgojkabjgagjcaa
attribute [local irreducible] QOp aL aC qL
attribute [local irreducible] FOp POp hL xH
theorem apf_cmp (ns : List Nat) (a b : Nat) : (decide (a ≠ b) && !cmp ns a b) = apf ns a b := by
  unfold apf cmp
  cases lt ns a b <;> cases lt ns b a <;> simp
theorem apf_iff {n : Nat} {ns : List Nat} {a b : Nat} (ha : a < n) (hb : b < n) : apf ns a b = true ↔ ApP n ns (a, b) := by
  rw [← apL_mem]
  unfold apL
  rw [prs_mem]
  exact ⟨fun h => ⟨ha, hb, h⟩, fun h => h.2.2⟩
def ordO (n : Nat) (o : Option (List Nat)) : AV := match o with
  | some C => ordv n (nl C)
  | none => ordv 0 []
theorem checkSmall_ac (N : Int) (l : List Int) : AC Try.prog 5 [ordv N l] [] (.val (.int .i64 (chkR N l))) [] := by
  have kC := CheckOrder_ac N l
  unfold chkR
  by_cases hz : chk N l = 0
  · rw [hz] at kC ⊢
    by_cases h7 : 7 < N
    · rw [if_pos ⟨rfl, h7⟩]
      refine AC.mk (n := 14) (fn := Try.f5) Try.func5 (by kernel_rfl) rfl rfl rfl rfl (fun cx => ?_); dsimp only [argv, Nat.reduceAdd]
      (repeat' (first | refine a_seq ?_ | refine a_ret ?_ | refine a_region ?_ | refine l_nil ?_ | (apply w_q; (focus (first | exact Q_move (by conv => lhs; whnf) | exact Q_assign (by conv => lhs; whnf) | exact Q_fieldAddr_ptr rfl KFl.h | exact Q_load_ptr rfl rfl rfl KSc.h | exact Q_load_all rfl rfl KAg.h | exact Q_gtr rfl rfl | exact Q_eql rfl rfl | exact Q_pick_t rfl rfl (by conv => lhs; whnf))); (focus exact rfl)) | (refine a_cond rfl ?_ ?_ <;> (intro h; (try (have hp := of_decide_eq_true h)); (try (have hp := of_decide_eq_false h)); (try contradiction); (try (exfalso; omega)))) | refine w_guard_y rfl rfl rfl (by first | assumption | rfl) ?_ | refine w_box rfl rfl (by first|(dsimp only[obA,obB,obD,obE,obF,obG,obI,List.map,AO.sh,AV.sh,AV.shl,Nat.reduceAdd];done)|exact rfl) (by first|(dsimp only[obA,obB,obD,obE,obF,obG,obI,List.map,AO.sh,AV.sh,AV.shl,Nat.reduceAdd];done)|exact rfl) rfl ?_ | (((first | apply w_q); (focus (refine Q_call (.inl ⟨rfl, rfl⟩) (kC) ?_; ((repeat' (first | exact trivial | exact vwR rfl | exact Vw.ro _ | refine Vw.agg' ?_ | refine ⟨?_, ?_⟩ )); done))); (focus exact rfl))))); (try all_goals (try show retA _ _ _ _ _ _ _))
      all_goals first
        | (exfalso; omega)
        | (refine ⟨[_], [], ⟨resV_tmp (by conv => lhs; whnf), trivial⟩, VwOs.mk (by decide) trivial, ?_, rfl⟩; (repeat' (first | exact vwR rfl)); done)
        | (all_goals trace_state); fail
    · rw [if_neg fun h => h7 h.2]
      refine AC.mk (n := 14) (fn := Try.f5) Try.func5 (by kernel_rfl) rfl rfl rfl rfl (fun cx => ?_); dsimp only [argv, Nat.reduceAdd]
      (repeat' (first | refine a_seq ?_ | refine a_skip ?_ | refine a_ret ?_ | refine a_region ?_ | refine l_nil ?_ | (apply w_q; (focus (first | exact Q_move (by conv => lhs; whnf) | exact Q_assign (by conv => lhs; whnf) | exact Q_fieldAddr_ptr rfl KFl.h | exact Q_load_ptr rfl rfl rfl KSc.h | exact Q_load_all rfl rfl KAg.h | exact Q_gtr rfl rfl | exact Q_eql rfl rfl | exact Q_pick_t rfl rfl (by conv => lhs; whnf))); (focus exact rfl)) | (refine a_cond rfl ?_ ?_ <;> (intro h; (try (have hp := of_decide_eq_true h)); (try (have hp := of_decide_eq_false h)); (try contradiction); (try (exfalso; omega)))) | refine w_guard_y rfl rfl rfl (by first | assumption | rfl) ?_ | refine w_box rfl rfl (by first|(dsimp only[obA,obB,obD,obE,obF,obG,obI,List.map,AO.sh,AV.sh,AV.shl,Nat.reduceAdd];done)|exact rfl) (by first|(dsimp only[obA,obB,obD,obE,obF,obG,obI,List.map,AO.sh,AV.sh,AV.shl,Nat.reduceAdd];done)|exact rfl) rfl ?_ | (((first | apply w_q); (focus (refine Q_call (.inl ⟨rfl, rfl⟩) (kC) ?_; ((repeat' (first | exact trivial | exact vwR rfl | exact Vw.ro _ | refine Vw.agg' ?_ | refine ⟨?_, ?_⟩ )); done))); (focus exact rfl))))); (try all_goals (try show retA _ _ _ _ _ _ _))
      all_goals first
        | (exfalso; omega)
        | (refine ⟨[_], [], ⟨resV_tmp (by conv => lhs; whnf), trivial⟩, VwOs.mk (by decide) trivial, ?_, rfl⟩; (repeat' (first | exact vwR rfl)); done)
        | (all_goals trace_state); fail
  · rw [if_neg fun h => hz h.1]
    generalize chk N l = e at *
    refine AC.mk (n := 14) (fn := Try.f5) Try.func5 (by kernel_rfl) rfl rfl rfl rfl (fun cx => ?_); dsimp only [argv, Nat.reduceAdd]
    (repeat' (first | refine a_seq ?_ | refine a_skip ?_ | refine a_ret ?_ | refine a_region ?_ | refine l_nil ?_ | (apply w_q; (focus (first | exact Q_move (by conv => lhs; whnf) | exact Q_assign (by conv => lhs; whnf) | exact Q_load_all rfl rfl KAg.h | exact Q_eql rfl rfl | exact Q_pick_f rfl (by assumption) (by conv => lhs; whnf))); (focus exact rfl)) | (refine a_cond rfl ?_ ?_ <;> (intro h; (try (have hp := of_decide_eq_true h)); (try (have hp := of_decide_eq_false h)); (try contradiction); (try (exfalso; omega)))) | refine w_guard_n rfl rfl rfl (by first | assumption | rfl) ?_ | (refine w_guard rfl rfl rfl ?_ ?_ <;> (intro h; (try (have hp := of_decide_eq_true h)); (try (have hp := of_decide_eq_false h)); (try contradiction); (try (exfalso; omega)))) | refine w_box rfl rfl (by first|(dsimp only[obA,obB,obD,obE,obF,obG,obI,List.map,AO.sh,AV.sh,AV.shl,Nat.reduceAdd];done)|exact rfl) (by first|(dsimp only[obA,obB,obD,obE,obF,obG,obI,List.map,AO.sh,AV.sh,AV.shl,Nat.reduceAdd];done)|exact rfl) rfl ?_ | (((first | apply w_q); (focus (refine Q_call (.inl ⟨rfl, rfl⟩) (kC) ?_; ((repeat' (first | exact trivial | exact vwR rfl | exact Vw.ro _ | refine Vw.agg' ?_ | refine ⟨?_, ?_⟩ )); done))); (focus exact rfl))))); (try all_goals (try show retA _ _ _ _ _ _ _))
    all_goals first
      | (exfalso; omega)
      | (refine ⟨[_], [], ⟨resV_tmp (by conv => lhs; whnf), trivial⟩, VwOs.mk (by decide) trivial, ?_, rfl⟩; (repeat' (first | exact vwR rfl)); done)
      | (all_goals trace_state); fail
end Go.Proofs.Ytgojkabjgagjcaa
set_option linter.unusedSimpArgs false
set_option linter.unusedVariables false
set_option linter.unusedSectionVars false
set_option maxRecDepth 20000
namespace Go.Proofs.Ytgojkabjgagjcaa
attribute [local irreducible] QOp aL aC qL
/-- How many of the first k numbers. -/
def cqN (p : Nat → Bool) : Nat → Nat
  | 0 => 0
  | k + 1 => if p k = true then cqN p k + 1 else cqN p k
def sqN (f : Nat → Nat) : Nat → Nat
  | 0 => 0
  | k + 1 => sqN f k + f k
theorem cqN_le (p : Nat → Bool) : ∀ k, cqN p k ≤ k
  | 0 => Nat.le_refl _
  | k + 1 => by have := cqN_le p k; rw [cqN]; split <;> omega
theorem sqN_le {f : Nat → Nat} {B : Nat} : ∀ {k : Nat}, (∀ i, i < k → f i ≤ B) → sqN f k ≤ k * B
  | 0, _ => by rw [sqN]; omega
  | k + 1, h => by
    have h1 := h k (by omega)
    have h2 := sqN_le (f := f) (B := B) (k := k) fun i hi => h i (by omega)
    rw [sqN, Nat.succ_mul]; omega
end Go.Proofs.Ytgojkabjgagjcaa
set_option linter.unusedSimpArgs false
set_option linter.unusedVariables false
set_option linter.unusedSectionVars false
set_option maxRecDepth 20000
namespace Go.Proofs.Ytgojkabjgagjcaa
attribute [local irreducible] QOp aL aC qL
/-- What is below what, among the first n numbers. -/
structure PoN (n : Nat) (le : Nat → Nat → Bool) : Prop where
  rf : ∀ x, x < n → le x x = true
  tr : ∀ x y z, x < n → y < n → z < n → le x y = true → le y z = true → le x z = true
  an : ∀ x y, x < n → y < n → le x y = true → le y x = true → x = y
theorem cqN_mono {p q : Nat → Bool} : ∀ {k : Nat}, (∀ i, i < k → p i = true → q i = true) → cqN p k ≤ cqN q k
  | 0, _ => Nat.le_refl _
  | k + 1, h => by
    have ih := cqN_mono (p := p) (q := q) (k := k) fun i hi => h i (by omega)
    have h1 := h k (by omega)
    rw [cqN, cqN]
    by_cases hp : p k = true
    · rw [if_pos hp, if_pos (h1 hp)]; omega
    · rw [if_neg hp]; split <;> omega
theorem cqN_lt {p q : Nat → Bool} : ∀ {k x : Nat}, (∀ i, i < k → p i = true → q i = true) → x < k → p x = false → q x = true → cqN p k < cqN q k
  | 0, x, _, hx, _, _ => by omega
  | k + 1, x, h, hx, h1, h2 => by
    have hm := cqN_mono (p := p) (q := q) (k := k) fun i hi => h i (by omega)
    rw [cqN, cqN]
    by_cases e : x = k
    · subst e
      rw [if_neg (by rw [h1]; decide), if_pos h2]; omega
    · have ih := cqN_lt (p := p) (q := q) (k := k) (x := x) (fun i hi => h i (by omega)) (by omega) h1 h2
      by_cases hp : p k = true
      · rw [if_pos hp, if_pos (h k (by omega) hp)]; omega
      · rw [if_neg hp]; split <;> omega
/-- How many are above, itself too. -/
def upC (le : Nat → Nat → Bool) (n x : Nat) : Nat := cqN (le x) n
def itR (F : Nat → Nat) : Nat → Nat → Nat
  | 0, x => x
  | k + 1, x => F (itR F k x)
/-- The map goes from n points to n points, and is monotone. -/
structure MnR (n : Nat) (le : Nat → Nat → Bool) (F : Nat → Nat) : Prop where
  ml : ∀ x, x < n → F x < n
  mm : ∀ x y, x < n → y < n → le x y = true → le (F x) (F y) = true
/-- The least one that stays. -/
structure LsF (n : Nat) (le : Nat → Nat → Bool) (F : Nat → Nat) (x : Nat) : Prop where
  sl : x < n
  sf : F x = x
  sm : ∀ c, c < n → F c = c → le x c = true
theorem LsF.one {n : Nat} {le : Nat → Nat → Bool} {F : Nat → Nat} (hp : PoN n le) {x y : Nat} (h : LsF n le F x) (h' : LsF n le F y) : x = y :=
  hp.an x y h.sl h'.sl (h.sm y h'.sl h'.sf) (h'.sm x h.sl h.sf)
/-- What is below what in a lattice, or turned over. -/
def leT (M : List (List Nat)) (h : Bool) (x y : Nat) : Bool := match h with
  | true => decide (ta M y x = y)
  | false => decide (ta M x y = x)
/-- The map is monotone, in a lattice. -/
def LmP (n : Nat) (M : List (List Nat)) (F : List Nat) : Prop := ∀ x, x < n → ∀ y, y < n → ta M x y = x → ta M (F.getD x 0) (F.getD y 0) = F.getD x 0
instance (n : Nat) (M : List (List Nat)) (F : List Nat) : Decidable (LmP n M F) := by unfold LmP; infer_instance
/-- The end at which one begins. -/
def enT (M J : List (List Nat)) (n : Nat) : Bool → Nat
  | false => endE (ta M) n
  | true => endE (ta J) n
end Go.Proofs.Ytgojkabjgagjcaa
