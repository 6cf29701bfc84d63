import Derived.Test.YtpbnoocdkchooaaDoorFc
import Derived.Test.YtpbnoocdkchooaaDoorZb
import Derived.Test.YtpbnoocdkchooaaDoorCc
import Derived.Test.YtpbnoocdkchooaaDoorKa
import Derived.Test.YtpbnoocdkchooaaDoorEngR
import Derived.Test.YtpbnoocdkchooaaDoorCards
import Derived.Test.YtpbnoocdkchooaaDoorTie
import Derived.Lib.LaidTab
import Derived.MakeChecks
import Derived.Stop.LaidErr
import Derived.LaidMore
set_option linter.unusedSimpArgs false
set_option linter.unusedVariables false
set_option linter.unusedSectionVars false
set_option maxRecDepth 20000
namespace Go.Proofs.YtpbnoocdkchooaaDoor
attribute [local irreducible] QOp aL aC qL
abbrev ctx (T M : Int) (l : List Int) : AV := .agg [.val (.int .i64 T), .val (.int .i64 M), ints l]
def cbad (M : Nat) (x : Int) : Prop := x < 0 ∨ x / 2 ^ M ≠ 0
instance (M : Nat) (x : Int) : Decidable (cbad M x) := inferInstanceAs (Decidable (_ ∨ _))
def cchk (T M : Int) (l : List Int) : Int :=
  if T < 0 ∨ 10 < T ∨ M < 0 ∨ 10 < M then 2 else if (l.length : Int) ≠ T then 1 else if ∃ x ∈ l, cbad M.toNat x then 3 else 0
theorem cchk_0 {t m : Nat} {l : List Int} (ht : t ≤ 10) (hm : m ≤ 10) (hl : l.length = t) (h : ∀ k, k < t → ¬ cbad m (l.getD k 0)) : cchk t m l = 0 := by
  unfold cchk
  rw [if_neg (by omega), if_neg (by omega), if_neg]
  rintro ⟨x, hx, hb⟩
  obtain ⟨i, hi, rfl⟩ := List.getElem_of_mem hx
  rw [Int.toNat_natCast, ← getD_of hi 0] at hb
  exact h i (by omega) hb
/-- A context of which nothing is wrong. -/
structure Ctx (t m : Nat) (ns : List Nat) : Prop where
  ht : t ≤ 10
  hm : m ≤ 10
  len : ns.length = t
  lt : ∀ x ∈ ns, x < 2 ^ m
theorem Ctx.get {t m : Nat} {ns : List Nat} (h : Ctx t m ns) (k : Nat) : ns.getD k 0 < 2 ^ m := by
  rw [List.getD_eq_getElem?_getD]
  cases hk : ns[k]? with
  | none => exact Nat.pow_pos (by decide)
  | some x => exact h.lt x (List.mem_of_getElem? hk)
theorem pow10 {m : Nat} (h : m ≤ 10) : 2 ^ m ≤ 1024 := Nat.pow_le_pow_right (by decide) h
theorem Ctx.le {t m : Nat} {ns : List Nat} (h : Ctx t m ns) (k : Nat) : ns.getD k 0 < 1024 := Nat.lt_of_lt_of_le (h.get k) (pow10 h.hm)
theorem Ctx.chk {t m : Nat} {ns : List Nat} (h : Ctx t m ns) : cchk t m (nl ns) = 0 :=
  cchk_0 h.ht h.hm (by rw [nl_len]; exact h.len) fun k hk => by
    have := h.get k
    rw [nl_get]
    rintro (hb | hb)
    · omega
    · have h6 : (((ns.getD k 0 : Nat) : Int) / 2 ^ m) = ((ns.getD k 0 / 2 ^ m : Nat) : Int) := by simp
      rw [h6, Nat.div_eq_of_lt this] at hb
      exact hb rfl

/-! Marks of things. -/
def marksTo (m : Nat) (ns : List Nat) (s : Nat) : Nat → Nat
  | 0 => 2 ^ m - 1
  | k + 1 => if s.testBit k = true then marksTo m ns s k &&& ns.getD k 0 else marksTo m ns s k
def marksN (m : Nat) (ns : List Nat) (s : Nat) : Nat := marksTo m ns s ns.length
def thingsTo (ns : List Nat) (q : Nat) : Nat → Nat
  | 0 => 0
  | k + 1 => if sub q (ns.getD k 0) = true then thingsTo ns q k ||| 2 ^ k else thingsTo ns q k
def thingsN (ns : List Nat) (q : Nat) : Nat := thingsTo ns q ns.length
end Go.Proofs.YtpbnoocdkchooaaDoor
set_option linter.unusedSimpArgs false
set_option linter.unusedVariables false
set_option linter.unusedSectionVars false
set_option maxRecDepth 20000
namespace Go.Proofs.YtpbnoocdkchooaaDoor
attribute [local irreducible] QOp aL aC qL
/-- Do all of some things, of the first i, have a mark. -/
def allTo (ns : List Nat) (s j i : Nat) : Bool := (List.range i).all fun i => !s.testBit i || (ns.getD i 0).testBit j
/-! Concepts: sets of things that are those of their marks. -/
def conTo (m : Nat) (ns : List Nat) : Nat → List (Nat × Nat)
  | 0 => []
  | s + 1 => if thingsN ns (marksN m ns s) = s then conTo m ns s ++ [(s, marksN m ns s)] else conTo m ns s
def conN (t m : Nat) (ns : List Nat) : List (Nat × Nat) := conTo m ns (2 ^ t)
end Go.Proofs.YtpbnoocdkchooaaDoor
set_option linter.unusedSimpArgs false
set_option linter.unusedVariables false
set_option linter.unusedSectionVars false
set_option maxRecDepth 20000
namespace Go.Proofs.YtpbnoocdkchooaaDoor
attribute [local irreducible] QOp aL aC qL
/-- Does a come ahead of b: by the first of the points that one alone has. -/
def lec (a b : Nat) : Bool := (List.range 10).any fun k => !a.testBit k && b.testBit k && (List.range k).all fun i => a.testBit i == b.testBit i
theorem lec_iff {a b : Nat} : lec a b = true ↔ ∃ k, k < 10 ∧ a.testBit k = false ∧ b.testBit k = true ∧ ∀ i, i < k → a.testBit i = b.testBit i := by
  unfold lec
  simp only [List.any_eq_true, List.mem_range, Bool.and_eq_true, Bool.not_eq_true', List.all_eq_true, beq_iff_eq, and_assoc]
theorem lec_irr (a : Nat) : lec a a = false := by
  cases h : lec a a
  · rfl
  · obtain ⟨k, _, h1, h2, _⟩ := lec_iff.1 h
    rw [h1] at h2; cases h2
theorem lec_trans {a b c : Nat} (h1 : lec a b = true) (h2 : lec b c = true) : lec a c = true := by
  obtain ⟨k, k1, k2, k3, k4⟩ := lec_iff.1 h1
  obtain ⟨l, l1, l2, l3, l4⟩ := lec_iff.1 h2
  rcases Nat.lt_trichotomy k l with h | h | h
  · exact lec_iff.2 ⟨k, k1, k2, by rw [← l4 k h]; exact k3, fun i hi => (k4 i hi).trans (l4 i (by omega))⟩
  · subst h; rw [k3] at l2; cases l2
  · exact lec_iff.2 ⟨l, l1, by rw [k4 l h]; exact l2, l3, fun i hi => (k4 i (by omega)).trans (l4 i hi)⟩
theorem xor_low {a b : Nat} (ha : a < 1024) (hb : b < 1024) (h : a ≠ b) : ∃ k, k < 10 ∧ low (a ^^^ b) = 2 ^ k ∧ a.testBit k ≠ b.testBit k ∧ ∀ i, i < k → a.testBit i = b.testBit i := by
  have hlt : a ^^^ b < 2 ^ 10 := Nat.xor_lt_two_pow ha hb
  have hne : a ^^^ b ≠ 0 := fun h0 => h (by
    apply Nat.eq_of_testBit_eq
    intro i
    have := congrArg (·.testBit i) h0
    simp only [Nat.testBit_xor, Nat.zero_testBit] at this
    cases ha : a.testBit i <;> cases hb : b.testBit i <;> rw [ha, hb] at this <;> first | rfl | cases this)
  obtain ⟨k, h1, h2, h3⟩ := low_pow (Nat.pos_of_ne_zero hne) (Nat.lt_trans hlt (by decide))
  refine ⟨k, ?_, h1, ?_, fun i hi => ?_⟩
  · rcases Nat.lt_or_ge k 10 with hk | hk
    · exact hk
    · rw [Nat.testBit_lt_two_pow (Nat.lt_of_lt_of_le hlt (Nat.pow_le_pow_right (by decide) hk))] at h2; cases h2
  · intro he
    rw [Nat.testBit_xor, he, Bool.xor_self] at h2; cases h2
  · have := h3 i hi
    rw [Nat.testBit_xor] at this
    cases ha : a.testBit i <;> cases hb : b.testBit i <;> rw [ha, hb] at this <;> first | rfl | cases this
theorem lec_total {a b : Nat} (ha : a < 1024) (hb : b < 1024) (h : a ≠ b) : lec a b = true ∨ lec b a = true := by
  obtain ⟨k, h1, _, h3, h4⟩ := xor_low ha hb h
  cases hk : a.testBit k
  · refine .inl (lec_iff.2 ⟨k, h1, hk, ?_, h4⟩)
    cases hk2 : b.testBit k
    · rw [hk, hk2] at h3; exact absurd rfl h3
    · rfl
  · refine .inr (lec_iff.2 ⟨k, h1, ?_, hk, fun i hi => (h4 i hi).symm⟩)
    cases hk2 : b.testBit k
    · rfl
    · rw [hk, hk2] at h3; exact absurd rfl h3
theorem lec_asymm {a b : Nat} (h : lec a b = true) : lec b a = false := by
  cases h2 : lec b a
  · rfl
  · have := lec_trans h h2
    rw [lec_irr] at this; cases this
def closC (m : Nat) (ns : List Nat) (s : Nat) : Bool := decide (marksN m ns (thingsN ns s) = s)
/-- The first one of a family, if there is one. -/
structure Best (S : Nat → Prop) (o : Option Nat) : Prop where
  nn : o = none → ∀ x, ¬ S x
  sm : ∀ y, o = some y → S y ∧ ∀ x, S x → x = y ∨ lec y x = true
theorem Best.uniq {S : Nat → Prop} {o o' : Option Nat} (h : Best S o) (h' : Best S o') : o = o' := by
  cases o with
  | none => cases o' with
    | none => rfl
    | some y => exact absurd (h'.sm y rfl).1 (h.nn rfl y)
  | some x => cases o' with
    | none => exact absurd (h.sm x rfl).1 (h'.nn rfl x)
    | some y =>
      obtain ⟨h1, h2⟩ := h.sm x rfl
      obtain ⟨h3, h4⟩ := h'.sm y rfl
      rcases h2 y h3 with h5 | h5
      · rw [h5]
      · rcases h4 x h1 with h6 | h6
        · rw [h6]
        · rw [lec_asymm h5] at h6; cases h6
/-- One more. -/
theorem Best.step {S S' : Nat → Prop} {o : Option Nat} {s : Nat} (h : Best S o) (hs : S' s) (hS : ∀ x, S' x ↔ S x ∨ x = s) (hlt : ∀ x, S' x → x < 1024) (hb : ∀ y, o = some y → lec y s = false) : Best S' (some s) := by
  refine ⟨fun h => (by cases h), fun y hy => ?_⟩
  obtain rfl := Option.some.inj hy
  refine ⟨hs, fun x hx => ?_⟩
  rcases (hS x).1 hx with h1 | h1
  · by_cases hxs : x = s
    · exact .inl hxs
    · right
      cases o with
      | none => exact absurd h1 (h.nn rfl x)
      | some y =>
        obtain ⟨h2, h3⟩ := h.sm y rfl
        have h4 := hb y rfl
        have hys : y = s ∨ lec s y = true := by
          by_cases hq : y = s
          · exact .inl hq
          · rcases lec_total (hlt y ((hS y).2 (.inl h2))) (hlt s hs) hq with h5 | h5
            · rw [h4] at h5; cases h5
            · exact .inr h5
        rcases h3 x h1 with h5 | h5 <;> rcases hys with h6 | h6
        · exact absurd (h5.trans h6) hxs
        · rw [h5]; exact h6
        · rw [← h6]; exact h5
        · exact lec_trans h6 h5
  · exact .inl h1
theorem Best.stay {S S' : Nat → Prop} {o : Option Nat} {s : Nat} (h : Best S o) (hS : ∀ x, S x → S' x) (hS' : ∀ x, S' x → S x ∨ x = s) (hb : ¬ S' s ∨ ∃ y, o = some y ∧ (y = s ∨ lec y s = true)) : Best S' o := by
  refine ⟨fun ho x hx => ?_, fun y hy => ?_⟩
  · rcases hS' x hx with h1 | h1
    · exact h.nn ho x h1
    · subst h1
      rcases hb with h2 | ⟨y, h2, _⟩
      · exact h2 hx
      · rw [ho] at h2; cases h2
  · obtain ⟨h1, h2⟩ := h.sm y hy
    refine ⟨hS y h1, fun x hx => ?_⟩
    rcases hS' x hx with h3 | h3
    · exact h2 x h3
    · subst h3
      rcases hb with h4 | ⟨y', h4, h5⟩
      · exact absurd hx h4
      · rw [hy] at h4
        obtain rfl := Option.some.inj h4
        rcases h5 with h5 | h5
        · exact .inl h5.symm
        · exact .inr h5
end Go.Proofs.YtpbnoocdkchooaaDoor
set_option linter.unusedSimpArgs false
set_option linter.unusedVariables false
set_option linter.unusedSectionVars false
set_option maxRecDepth 20000
namespace Go.Proofs.YtpbnoocdkchooaaDoor
attribute [local irreducible] QOp aL aC qL
def nx (m : Nat) (ns : List Nat) (set : Nat) : Nat → Option Nat
  | 0 => none
  | s + 1 => if lec set s = true ∧ (∀ y, nx m ns set s = some y → lec y s = false) ∧ closC m ns s = true then some s else nx m ns set s
def nextO (m : Nat) (ns : List Nat) (set : Nat) : Option Nat := nx m ns set (2 ^ m)
/-! The reference. -/
def rb (l : List (Nat × Nat)) (set : Nat) : Nat → Option Nat
  | 0 => none
  | i + 1 => if lec set (l.getD i (0, 0)).2 = true ∧ (∀ y, rb l set i = some y → lec (l.getD i (0, 0)).2 y = true) then some (l.getD i (0, 0)).2 else rb l set i
def encO : Option Nat → Int
  | none => -1
  | some x => (x : Int)
def inC (T M : Int) (l : List Int) (set : Int) (b : Bool) : Int := if cchk T M l ≠ 0 then cchk T M l else if 0 ≤ set ∧ set < ((2 ^ (if b = true then M.toNat else T.toNat) : Nat) : Int) then 0 else 3
end Go.Proofs.YtpbnoocdkchooaaDoor
set_option linter.unusedSimpArgs false
set_option linter.unusedVariables false
set_option linter.unusedSectionVars false
set_option maxRecDepth 20000
namespace Go.Proofs.YtpbnoocdkchooaaDoor
attribute [local irreducible] QOp aL aC qL
/-- Of n things the one that a number speaks of. -/
def chooseN (c : Int) (n : Nat) : Nat := (if c < 0 then -(c + 1) else c).toNat % n
theorem choose_lt {c : Int} {n : Nat} (hn : 0 < n) : chooseN c n < n := Nat.mod_lt _ hn
theorem choose_ac (c : Int) (n : Nat) (hn : 0 < n) (hb : n ≤ 9223372036854775807) (hc : -9223372036854775808 ≤ c ∧ c ≤ 9223372036854775807) : AC Tryd.prog 16 [.val (.int .i64 c), .val (.int .i64 n)] [] (.val (.int .i64 (chooseN c n : Nat))) [] := by
  have e : ((chooseN c n : Nat) : Int) = (if c < 0 then -(c + 1) else c) % (n : Int) := by
    unfold chooseN
    rw [Int.natCast_emod]
    congr 1
    split <;> omega
  rw [e]
  refine AC.mk (n := 13) (fn := Tryd.f16) Tryd.func16 (by kernel_rfl) rfl rfl rfl rfl (fun cx => ?_); dsimp only [argv, Nat.reduceAdd]
  (repeat' (first | refine a_seq ?_ | refine a_block ?_ | refine a_skip ?_ | refine a_ret ?_ | refine a_exit ?_ | refine a_region ?_ | refine l_nil ?_ | (apply w_q; (focus (first | exact Q_move (by conv => lhs; whnf) | exact Q_assign (by conv => lhs; whnf) | exact Q_lss rfl rfl | exact Q_add rfl rfl (by omega) | exact Q_rem2 rfl rfl | exact Q_neg rfl (by omega))); (focus exact rfl)) | (refine a_cond rfl ?_ ?_ <;> (intro h; (try (have hp := of_decide_eq_true h)); (try (have hp := of_decide_eq_false h)); (try contradiction); (try (exfalso; omega)))) | (((first | apply w_q | apply w_qq); (focus exact Q_add rfl rfl (by omega)); (focus exact rfl))) | (((first | apply w_q | apply w_qq); (focus exact Q_neg rfl (by omega)); (focus exact rfl))) | (((first | apply w_q | apply w_qq); (focus exact Q_rem rfl rfl (by omega)); (focus exact rfl))))); (try all_goals (try show retA _ _ _ _ _ _ _))
  · refine ⟨[_], [], ⟨resV_tmp (by conv => lhs; whnf), trivial⟩, VwOs.mk (by decide) trivial, ?_, rfl⟩
    rw [if_pos hp]
    (repeat' (first | exact trivial | exact vwR rfl | exact vwRL rfl | exact Vw.val _ | exact Vw.ro _ | exact Vw.any _ | exact Vw.valro _ | exact Vw.own _ _ rfl | exact Vw.ptr _ _ _ rfl | exact Vw.rpt _ _ | exact Vw.nilro _ | exact Vw.rowro _ _ _ _ rfl (by decide) | exact Vw.rowro2 rfl (by decide) (by with_unfolding_all exact rfl) | refine Vw.agg' ?_ | refine Vw.tup' ?_ | refine Vw.clo' ?_ | refine Vw.boxrpt' rfl (by decide) ?_ | exact Nat.le_of_ble_eq_true rfl | refine ⟨?_, ?_⟩ ))
  · refine ⟨[_], [], ⟨resV_tmp (by conv => lhs; whnf), trivial⟩, VwOs.mk (by decide) trivial, ?_, rfl⟩
    rw [if_neg hp]
    (repeat' (first | exact trivial | exact vwR rfl | exact vwRL rfl | exact Vw.val _ | exact Vw.ro _ | exact Vw.any _ | exact Vw.valro _ | exact Vw.own _ _ rfl | exact Vw.ptr _ _ _ rfl | exact Vw.rpt _ _ | exact Vw.nilro _ | exact Vw.rowro _ _ _ _ rfl (by decide) | exact Vw.rowro2 rfl (by decide) (by with_unfolding_all exact rfl) | refine Vw.agg' ?_ | refine Vw.tup' ?_ | refine Vw.clo' ?_ | refine Vw.boxrpt' rfl (by decide) ?_ | exact Nat.le_of_ble_eq_true rfl | refine ⟨?_, ?_⟩ ))
/-! What things and marks say of each other. -/
end Go.Proofs.YtpbnoocdkchooaaDoor
set_option linter.unusedSimpArgs false
set_option linter.unusedVariables false
set_option linter.unusedSectionVars false
set_option maxRecDepth 20000
namespace Go.Proofs.YtpbnoocdkchooaaDoor
abbrev tabL : List (String × DataW Unit) := [("math/bits.deBruijn32tab", Rows.laid_math_bits_deBruijn32tab), ("math/bits.deBruijn64tab", Rows.laid_math_bits_deBruijn64tab)]
theorem tab_laid (W : World) (h : laidMetH Tryd.prog tabL W) : TabG [] W [] := by
  rw [MakeChecks.laidMetH_plain _ _ _ (by kernel_rfl)] at h
  have hT : Lib.TabIs Tryd.prog W "math/bits.deBruijn64tab" .u8 (tz64.map fun (z : Nat) => (z : Int)) :=
    Lib.tabIs_of_head (g := 1) (by kernel_rfl) rfl Tryd.underlying173 Tryd.underlying5 (by kernel_rfl) (by kernel_rfl) h.tail
  have hg : Tryd.prog.globalNamed "math/bits.deBruijn64tab" = some 1 := by kernel_rfl
  have hc : ∀ k, k < 64 → W.cell? ⟨1, k, none⟩ = some (.int .u8 ((tz64.getD k 0 : Nat) : Int)) := fun k hk => by
    have := hT.cell hg k (by rw [List.length_map]; exact hk)
    rw [this, List.getD_eq_getElem?_getD, List.getElem?_map, List.getElem?_eq_getElem (show k < tz64.length from hk), List.getD_eq_getElem?_getD, List.getElem?_eq_getElem (show k < tz64.length from hk)]; rfl
  have one : ∀ p, p ∈ Tab → p = (1, tabN tz64) := fun p hp => List.mem_singleton.1 hp
  refine ⟨fun p _ ho => noM_own ho, fun p hp => ?_, fun p hp k v hv => ?_⟩
  · rw [one p hp]
    exact World.block_lt_of_cell? W _ (hc 0 (by decide))
  · rw [one p hp] at hv ⊢
    have hk : k < 64 := by
      have := (List.getElem?_eq_some_iff.1 hv).1
      unfold tabN at this
      rw [List.length_map] at this
      exact this
    rw [tab_get hk] at hv
    obtain rfl := Option.some.inj hv
    exact hc k hk
end Go.Proofs.YtpbnoocdkchooaaDoor
