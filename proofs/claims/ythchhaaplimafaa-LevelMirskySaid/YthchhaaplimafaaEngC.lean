/- The rules of code and of regions. -/
import Derived.Test.YthchhaaplimafaaEngB
set_option linter.unusedSimpArgs false
set_option linter.unusedVariables false
namespace Go.Proofs.Ythchhaaplimafaa
open Go.RowKit
section
variable {P : Program} {k : Nat} {cx : Cx k}

def thenA (K : St → Prop) (Q : Exit → St → Prop) : Exit → St → Prop
  | .normal, st => K st
  | e, st => Q e st
def blockA (id : Nat) (Q : Exit → St → Prop) : Exit → St → Prop
  | .exit id', st => bif Nat.beq id' id then Q .normal st else Q (.exit id') st
  | e, st => Q e st

theorem a_mono [Zs] {c : Code} {Q Q' : Exit → St → Prop} {st : St} (h : aC P cx c Q st) (hq : ∀ e st, Q e st → Q' e st) : aC P cx c Q' st :=
  fun a w hr => wp_mono (h a w hr) fun e _ _ ⟨st', q, r⟩ => ⟨st', hq e st' q, r⟩

theorem a_le [Zs] {c : Code} {Q : Exit → St → Prop} {st : St} (st' : St) (σ : List Nat) (hle : st.le st' σ) (hσ : fixB k σ = true) (h : aC P cx c Q st') : aC P cx c Q st :=
  fun a w hr => h a w (hr.le hle hσ)

theorem a_skip [Zs] {Q : Exit → St → Prop} {st : St} (h : Q .normal st) : aC P cx .skip Q st := fun _ _ hr => wp_skip ⟨st, h, hr⟩
theorem a_label [Zs] {l : Nat} {Q : Exit → St → Prop} {st : St} (h : Q .normal st) : aC P cx (.label l) Q st := fun _ _ hr => wp_label ⟨st, h, hr⟩
theorem a_exit [Zs] {id : Nat} {Q : Exit → St → Prop} {st : St} (h : Q (.exit id) st) : aC P cx (.exit id) Q st := fun _ _ hr => wp_exit ⟨st, h, hr⟩
theorem a_goto [Zs] {l : Nat} {Q : Exit → St → Prop} {st : St} (h : Q (.goto l) st) : aC P cx (.goto l) Q st := fun _ _ hr => wp_goto ⟨st, h, hr⟩
theorem a_ret [Zs] {Q : Exit → St → Prop} {st : St} (h : Q .ret st) : aC P cx .ret Q st := fun _ _ hr => wp_ret ⟨st, h, hr⟩

theorem a_seq [Zs] {x y : Code} {Q : Exit → St → Prop} {st : St} (h : aC P cx x (thenA (fun st => aC P cx y Q st) Q) st) : aC P cx (.seq x y) Q st := by
  intro a w hr
  refine wp_seq (wp_mono (h a w hr) ?_)
  rintro e a' w' ⟨st', q, r⟩
  cases e with
  | normal => exact q a' w' r
  | exit id => exact ⟨st', q, r⟩
  | goto l => exact ⟨st', q, r⟩
  | ret => exact ⟨st', q, r⟩
  | panic ch => exact ⟨st', q, r⟩
  | outgrown => exact ⟨st', q, r⟩

theorem a_cond [Zs] {c : Operand} {x y : Code} {Q : Exit → St → Prop} {st : St} {b : Bool} (hc : st.ev c = .val (.bool b)) (ht : b = true → aC P cx x Q st) (hf : b = false → aC P cx y Q st) :
    aC P cx (.cond c x y) Q st := by
  intro a w hr
  have hv : a.eval c = .bool b := by
    obtain ⟨ρ, hb, _⟩ := hr.base
    exact hb.evv hc
  cases b with
  | true => exact wp_cond_true hv (ht rfl a w hr)
  | false => exact wp_cond_false hv (hf rfl a w hr)

theorem a_cond_true [Zs] {c : Operand} {x y : Code} {Q : Exit → St → Prop} {st : St} {b : Bool} (hc : st.ev c = .val (.bool b)) (hb : b = true) (h : aC P cx x Q st) : aC P cx (.cond c x y) Q st :=
  a_cond hc (fun _ => h) (fun h' => by rw [hb] at h'; cases h')
theorem a_cond_false [Zs] {c : Operand} {x y : Code} {Q : Exit → St → Prop} {st : St} {b : Bool} (hc : st.ev c = .val (.bool b)) (hb : b = false) (h : aC P cx y Q st) : aC P cx (.cond c x y) Q st :=
  a_cond hc (fun h' => by rw [hb] at h'; cases h') (fun _ => h)

theorem a_block [Zs] {id : Nat} {c : Code} {Q : Exit → St → Prop} {st : St} (h : aC P cx c (blockA id Q) st) : aC P cx (.block id c) Q st := by
  intro a w hr
  refine wp_block (wp_mono (h a w hr) ?_)
  rintro e a' w' ⟨st', q, r⟩
  cases e with
  | exit id' =>
    simp only [blockA] at q
    simp only [Exit.inBlock]
    by_cases h : id' = id
    · subst h; rw [if_pos rfl]; simp at q; exact ⟨st', q, r⟩
    · rw [if_neg h]
      have hb : Nat.beq id' id = false := by
        cases hb : Nat.beq id' id
        · rfl
        · exact absurd (Nat.eq_of_beq_eq_true hb) h
      rw [hb] at q
      exact ⟨st', q, r⟩
  | normal => exact ⟨st', q, r⟩
  | goto l => exact ⟨st', q, r⟩
  | ret => exact ⟨st', q, r⟩
  | panic ch => exact ⟨st', q, r⟩
  | outgrown => exact ⟨st', q, r⟩

/-- What is handed on at the end of a round. -/
def Hand {k : Nat} (X : Type) (inv : X → St) (I : X → Prop) (μ : X → Nat) (m : Nat) (st : St) : Prop :=
  ∃ x σ, I x ∧ μ x < m ∧ st.le (inv x) σ ∧ fixB k σ = true

/-- A loop: at the head of each round the state is inv x, for an x of which I holds; μ goes down. -/
theorem a_loop [Zs] {c : Code} {Q : Exit → St → Prop} {st : St} {X : Type} (inv : X → St) (I : X → Prop) (μ : X → Nat) (x0 : X) (σ0 : List Nat) (h0 : I x0) (hle : st.le (inv x0) σ0) (hσ : fixB k σ0 = true)
    (round : ∀ x, I x → aC P cx c (thenA (Hand (k := k) X inv I μ (μ x)) Q) (inv x)) : aC P cx (.loop c) Q st := by
  intro a w hr
  refine wp_loop_ghost (fun n a w => ∃ x, μ x = n ∧ I x ∧ Rel cx (inv x) a w) (μ x0) ⟨x0, rfl, h0, hr.le hle hσ⟩ ?_
  rintro n a w ⟨x, rfl, hI, hrel⟩
  refine wp_mono (round x hI a w hrel) ?_
  rintro e a' w' ⟨st', q, r⟩
  cases e with
  | normal =>
    obtain ⟨x', σ, h1, h2, h3, h4⟩ := q
    exact ⟨μ x', h2, x', rfl, h1, r.le h3 h4⟩
  | exit id => exact ⟨st', q, r⟩
  | goto l => exact ⟨st', q, r⟩
  | ret => exact ⟨st', q, r⟩
  | panic ch => exact ⟨st', q, r⟩
  | outgrown => exact ⟨st', q, r⟩

/-- Ways that meet again: behind x the state is inv y, for a y of which I holds. -/
theorem a_cut [Zs] {x y : Code} {Q : Exit → St → Prop} {st : St} {X : Type} (inv : X → St) (I : X → Prop)
    (h1 : aC P cx x (thenA (fun st => ∃ z σ, I z ∧ st.le (inv z) σ ∧ fixB k σ = true) Q) st) (h2 : ∀ z, I z → aC P cx y Q (inv z)) : aC P cx (.seq x y) Q st := by
  refine a_seq (a_mono h1 ?_)
  intro e st' q
  cases e with
  | normal => obtain ⟨z, σ, a1, a2, a3⟩ := q; exact a_le _ σ a2 a3 (h2 z a1)
  | exit id => exact q
  | goto l => exact q
  | ret => exact q
  | panic ch => exact q
  | outgrown => exact q

/-! Regions in the text's order. -/
def aL [Zs] (P : Program) {k : Nat} (cx : Cx k) (ops : Array Oper) (Q : Exit → St → Prop) (rest : List Oper) (st : St) : Prop :=
  ∀ a w, Rel cx st a w → wpList P ops (lift cx Q) rest a w

theorem a_region [Zs] {id : Nat} {l : List Oper} {Q : Exit → St → Prop} {st : St} (h : aL P cx l.toArray Q l st) : aC P cx (.region id l.toArray false) Q st :=
  fun a w hr => wp_region_lit (h a w hr)

theorem l_nil [Zs] {ops : Array Oper} {Q : Exit → St → Prop} {st : St} (h : Q .normal st) : aL P cx ops Q [] st := fun _ _ hr => ⟨st, h, hr⟩

/-- An operation that leaves memory as it is, and what it gives. -/
def QOp (P : Program) (o : Oper) (st : St) (av : AV) : Prop :=
  ∀ (_ : Zs) (ρ : Ids) (w : World) (a : Act), RelB ρ w st a → ∃ v, Gm ρ w (Ban ρ st.objs) av v ∧ ∀ w1, Below w.heap.size w w1 → Oper.quietAt P o a (Below w.heap.size w) w1 v

theorem yielded_of [Zs] {st : St} {a : Act} {ρ : Ids} {w : World} (hb : RelB ρ w st a) {ops : Array Oper} {j dj : Nat} {b : Bool} (hj : (ops[j]?).bind (·.dst) = some dj) (hv : st.get dj = .val (.bool b)) :
    yielded ops a.tmps j = some b := by
  have h := hb.frame dj
  rw [hv] at h
  have h2 : a.tmps.getD dj undef = .bool b := h.val_inv
  have h3 : a.tmps[dj]? = some (.bool b) := by
    cases hx : a.tmps[dj]? with
    | none => simp [hx, undef] at h2
    | some u => simp [hx] at h2; rw [h2]
  unfold yielded
  rw [hj]
  simp [h3]

theorem yielded_none [Zs] {st : St} {a : Act} {ρ : Ids} {w : World} (hb : RelB ρ w st a) {ops : Array Oper} {j dj : Nat} (hj : (ops[j]?).bind (·.dst) = some dj) (hv : st.get dj = .val undef) : yielded ops a.tmps j = none := by
  have h := hb.frame dj
  rw [hv] at h
  have h2 : a.tmps.getD dj undef = undef := h.val_inv
  unfold yielded
  rw [hj]
  cases hx : a.tmps[dj]? with
  | none => simp [hx]
  | some u => simp [hx] at h2; simp [hx, h2, undef]
theorem l_guard_u [Zs] {ops : Array Oper} {Q : Exit → St → Prop} {st : St} {rest : List Oper} {d : Nat} {op : Op} {ty : TypeId} {pos : String} {af : Array Edge} {j : Nat} {want : Bool} {dj : Nat}
    (hj : (ops[j]?).bind (·.dst) = some dj) (hv : st.get dj = .val undef) (hd : Nat.blt d st.n = true)
    (no : aL P cx ops Q rest (st.put d (.val undef))) : aL P cx ops Q (⟨some d, op, ty, pos, af, some (j, want)⟩ :: rest) st := by
  intro a w hr
  obtain ⟨ρ, hb, hf, h0⟩ := hr.base
  have hy := yielded_none hb hj hv
  unfold wpList
  rw [if_neg (by simp [Region.wanted, hy])]
  exact no _ _ ⟨⟨ρ, hb.put hd (.val _), hf, h0⟩, hr.same⟩

theorem l_guard [Zs] {ops : Array Oper} {Q : Exit → St → Prop} {st : St} {rest : List Oper} {d : Nat} {op : Op} {ty : TypeId} {pos : String} {af : Array Edge} {j : Nat} {want : Bool} {dj : Nat} {b : Bool}
    (hj : (ops[j]?).bind (·.dst) = some dj) (hv : st.get dj = .val (.bool b)) (hd : Nat.blt d st.n = true)
    (yes : b = want → aL P cx ops Q (⟨some d, op, ty, pos, af, none⟩ :: rest) st)
    (no : b = !want → aL P cx ops Q rest (st.put d (.val undef))) : aL P cx ops Q (⟨some d, op, ty, pos, af, some (j, want)⟩ :: rest) st := by
  intro a w hr
  obtain ⟨ρ, hb, hf, h0⟩ := hr.base
  have hy := yielded_of hb hj hv
  unfold wpList
  by_cases h : b = want
  · subst h
    rw [if_pos (by simp [Region.wanted, hy])]
    have := yes rfl a w hr
    unfold wpList at this
    rw [if_pos (by simp [Region.wanted])] at this
    exact this
  · rw [if_neg (by simp [Region.wanted, hy, h])]
    have hn : b = !want := by cases b <;> cases want <;> simp_all
    exact no hn _ _ ⟨⟨ρ, hb.put hd (.val _), hf, h0⟩, hr.same⟩

theorem upon_of_quiet {o : Oper} {a : Act} {w : World} {v : Value} {next : Act → World → Prop} {Q : Exit → Act → World → Prop} (h : Oper.quietAt P o a (Below w.heap.size w) w v)
    (hn : ∀ w', Below w.heap.size w w' → next (a.put o.dst v) w') : o.wp P a w next Q := by
  unfold Oper.quietAt at h
  unfold Oper.wp
  generalize (execOp a.eval o).run P w = r at *
  cases r with
  | ok n w' =>
    cases n <;> simp only [Oper.quietUpon] at h <;> simp only [Oper.upon]
    case value u =>
      obtain ⟨e1, e2⟩ := h
      subst e1; subst e2
      exact hn _ (Below.refl _ _)
    case skip =>
      obtain ⟨e1, e2⟩ := h
      subst e1; subst e2
      exact hn _ (Below.refl _ _)
    case enter f args =>
      obtain ⟨e1, hc⟩ := h
      subst e1
      exact hc.mono fun e w'' ⟨he, hw''⟩ => by subst he; exact hn _ hw''
  | halt x w' => simp only [Oper.quietUpon] at h

theorem l_q [Zs] {ops : Array Oper} {Q : Exit → St → Prop} {st : St} {rest : List Oper} {d : Nat} {op : Op} {ty : TypeId} {pos : String} {af : Array Edge} {av : AV}
    (hq : QOp P ⟨some d, op, ty, pos, af, none⟩ st av) (hd : Nat.blt d st.n = true) (h : aL P cx ops Q rest (st.put d av)) : aL P cx ops Q (⟨some d, op, ty, pos, af, none⟩ :: rest) st := by
  intro a w hr
  obtain ⟨ρ, hb, hf, h0⟩ := hr.base
  obtain ⟨v, hg, hv⟩ := hq _ ρ w a hb
  unfold wpList
  rw [if_pos (by simp [Region.wanted])]
  refine .inl (upon_of_quiet (hv w (Below.refl _ _)) fun w' hw' => h _ _ ?_)
  have hr' := hr.mono hw'
  refine ⟨⟨ρ, (hb.mono hw').put hd (hg.mono (Same.of_below hw' _) (fun _ _ h => h) (fun _ _ h => h)), hf, h0⟩, hr'.same⟩

/-! Regions that draw their order, all of whose operations leave memory as it is. -/
def qL [Zs] (P : Program) (ops : Array Oper) (K : St → Prop) (rest : List Oper) (st : St) : Prop :=
  ∀ (ρ : Ids) (w : World) (a : Act), RelB ρ w st a → wpQuiet P ops (Below w.heap.size w) (fun a' => ∃ st', K st' ∧ st'.objs = st.objs ∧ RelB ρ w st' a') rest a

theorem wpQuiet_mono {ops : Array Oper} {C : World → Prop} {Q Q' : Act → Prop} (h : ∀ a, Q a → Q' a) : ∀ (l : List Oper) (a : Act), wpQuiet P ops C Q l a → wpQuiet P ops C Q' l a
  | [], a, hq => h a hq
  | o :: l, a, hq => by
    unfold wpQuiet at *
    split
    · rename_i hw; rw [if_pos hw] at hq; exact Oper.quiet_mono (wpQuiet_mono h l) hq
    · rename_i hw; rw [if_neg hw] at hq; exact wpQuiet_mono h l _ hq

theorem a_draw [Zs] {id : Nat} {l : List Oper} {Q : Exit → St → Prop} {st : St} (hm : P.follows .mixedOrders = true) (hB : Region.lexB .any l.toArray = true)
    (h : qL P l.toArray (fun st => Q .normal st) l st) : aC P cx (.region id l.toArray true) Q st := by
  intro a w hr
  obtain ⟨ρ, hb, hf, h0⟩ := hr.base
  refine wp_region_quiet (C := Below w.heap.size w) hm hB ⟨rfl, rfl, rfl, Nat.le_refl _, fun _ _ => rfl⟩ ?_
  simp only []
  refine wpQuiet_mono ?_ _ _ (h ρ w a hb)
  rintro a' ⟨st', hK, ho, hb'⟩ w' hw'
  refine ⟨st', hK, ⟨ρ, hb'.mono hw', ?_, h0⟩, (hr.mono hw').same⟩
  rw [ho]; exact hf

theorem q_nil [Zs] {ops : Array Oper} {K : St → Prop} {st : St} (h : K st) : qL P ops K [] st := fun _ _ _ hb => ⟨st, h, rfl, hb⟩

theorem q_q [Zs] {ops : Array Oper} {K : St → Prop} {st : St} {rest : List Oper} {d : Nat} {op : Op} {ty : TypeId} {pos : String} {af : Array Edge} {av : AV}
    (hq : QOp P ⟨some d, op, ty, pos, af, none⟩ st av) (hd : Nat.blt d st.n = true) (h : qL P ops K rest (st.put d av)) : qL P ops K (⟨some d, op, ty, pos, af, none⟩ :: rest) st := by
  intro ρ w a hb
  obtain ⟨v, hg, hv⟩ := hq _ ρ w a hb
  unfold wpQuiet
  rw [if_pos (by simp [Region.wanted])]
  exact ⟨v, hv, h ρ w _ (hb.put hd hg)⟩

theorem q_guard_u [Zs] {ops : Array Oper} {K : St → Prop} {st : St} {rest : List Oper} {d : Nat} {op : Op} {ty : TypeId} {pos : String} {af : Array Edge} {j : Nat} {want : Bool} {dj : Nat}
    (hj : (ops[j]?).bind (·.dst) = some dj) (hv : st.get dj = .val undef) (hd : Nat.blt d st.n = true)
    (no : qL P ops K rest (st.put d (.val undef))) : qL P ops K (⟨some d, op, ty, pos, af, some (j, want)⟩ :: rest) st := by
  intro ρ w a hb
  have hy := yielded_none hb hj hv
  unfold wpQuiet
  rw [if_neg (by simp [Region.wanted, hy])]
  exact no ρ w _ (hb.put hd (.val _))

theorem q_guard [Zs] {ops : Array Oper} {K : St → Prop} {st : St} {rest : List Oper} {d : Nat} {op : Op} {ty : TypeId} {pos : String} {af : Array Edge} {j : Nat} {want : Bool} {dj : Nat} {b : Bool}
    (hj : (ops[j]?).bind (·.dst) = some dj) (hv : st.get dj = .val (.bool b)) (hd : Nat.blt d st.n = true)
    (yes : b = want → qL P ops K (⟨some d, op, ty, pos, af, none⟩ :: rest) st)
    (no : b = !want → qL P ops K rest (st.put d (.val undef))) : qL P ops K (⟨some d, op, ty, pos, af, some (j, want)⟩ :: rest) st := by
  intro ρ w a hb
  have hy := yielded_of hb hj hv
  unfold wpQuiet
  by_cases h : b = want
  · subst h
    rw [if_pos (by simp [Region.wanted, hy])]
    have := yes rfl ρ w a hb
    unfold wpQuiet at this
    rw [if_pos (by simp [Region.wanted])] at this
    exact this
  · rw [if_neg (by simp [Region.wanted, hy, h])]
    have hn : b = !want := by cases b <;> cases want <;> simp_all
    exact no hn ρ w _ (hb.put hd (.val _))
end
end Go.Proofs.Ythchhaaplimafaa
