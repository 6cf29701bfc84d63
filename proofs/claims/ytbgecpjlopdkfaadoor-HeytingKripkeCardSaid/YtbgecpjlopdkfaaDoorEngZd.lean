import Derived.Test.YtbgecpjlopdkfaaDoorEngT
set_option linter.unusedSimpArgs false
set_option linter.unusedVariables false
set_option linter.unusedSectionVars false
namespace Go.Proofs.YtbgecpjlopdkfaaDoor
section
variable {P : Program} {st : St} {d : Option Tmp} {ty : TypeId} {pos : String} {af : Array Edge} {g : Option (Nat × Bool)} {T T' : TypeId} {x y : Operand} {m : Nat} {n : Int}
theorem Q_ushrC {k' : IntKind} (hx : st.ev x = .val (.int .u64 (m : Int))) (hy : st.ev y = .val (.int k' n)) (h0 : 0 ≤ n ∧ n < 64) :
    QOp P ⟨d, .binOp .shr T x y T', ty, pos, af, g⟩ st (.val (.int .u64 ((m / 2 ^ n.toNat : Nat) : Int))) := Q_bin hx hy fun w => by
  have h1 : ¬ n < 0 := by omega
  have h2 : min n.toNat IntKind.u64.bits = n.toNat := shl_eq _ (by omega)
  have h3 : (m : Int).fdiv (2 ^ n.toNat) = ((m / 2 ^ n.toNat : Nat) : Int) := by
    rw [Int.fdiv_eq_ediv_of_nonneg _ (Int.le_of_lt (Int.pow_pos (by decide)))]
    simp
  simp only [binOp, Op.shift, if_neg h1, h2, h3]
  rfl
theorem Q_uandC (hx : st.ev x = .val (.int .u64 (m : Int))) (hy : st.ev y = .val (.int .u64 n)) (h0 : 0 ≤ n ∧ n < 18446744073709551616) :
    QOp P ⟨d, .binOp .and T x y T', ty, pos, af, g⟩ st (.val (.int .u64 ((m % 18446744073709551616 &&& n.toNat : Nat) : Int))) := Q_bin hx hy fun w => by
  have hn : n.toNat < 2 ^ 64 := by omega
  have e : (BitVec.ofInt 64 (m : Int) &&& BitVec.ofInt 64 n).toNat = m % 18446744073709551616 &&& n.toNat := by
    rw [bv_nat (by omega), bv_nat h0.1, BitVec.toNat_and, BitVec.toNat_ofNat, BitVec.toNat_ofNat, Nat.mod_eq_of_lt hn, Int.toNat_natCast]
  have hlt : m % 18446744073709551616 &&& n.toNat < 2 ^ 64 := Nat.and_lt_two_pow _ hn
  have hw : IntKind.u64.wrap ((m % 18446744073709551616 &&& n.toNat : Nat) : Int) = ((m % 18446744073709551616 &&& n.toNat : Nat) : Int) := IntWalk.u64_in _ (by omega)
  show Result.ok (Value.int .u64 (IntKind.u64.wrap ((BitVec.ofInt 64 (m : Int) &&& BitVec.ofInt 64 n).toNat : Int))) w = _
  rw [e, hw]
end
end Go.Proofs.YtbgecpjlopdkfaaDoor
set_option linter.unusedSimpArgs false
set_option linter.unusedVariables false
set_option linter.unusedSectionVars false
namespace Go.Proofs.YtbgecpjlopdkfaaDoor
open Go.RowKit
def frm (l : List AO) : List AO := l.map fun o => match o with | .box _ => .gone | o => o
def thaw : List AO → List AO → List AO
  | o :: l, o' :: l' => (match o with | .box c => .box c | _ => o') :: thaw l l'
  | [], l' => l'
  | _ :: _, [] => []
/-- A block of a box. -/
def BX (ρ : Ids) (objs : List AO) (b : Nat) : Prop := ∃ id c, objs[id]? = some (.box c) ∧ foot ρ objs id b
def SF (ρ : Ids) (objs : List AO) (w w1 : World) : Prop := ∀ b, BX ρ objs b → w1.heap[b]? = w.heap[b]?
theorem SatO.weak {ρ : Ids} {w : World} {M M' : Nat → Prop} {id : Nat} {o : AO} (hM : ∀ b, M' b → M b) (h : SatO ρ w M id o) : SatO ρ w M' id o := by
  have hs := Same.refl M w
  cases o with
  | gone => trivial
  | mat e e' m => exact h
  | mp m => exact h
  | bld T e cs => exact h
  | row e sz cs =>
    obtain ⟨v, n, us, h1, h2, h3, h4⟩ := h
    refine ⟨v, n, us, h1, h2, h3, fun i d hi => ?_⟩
    obtain ⟨u, hu, hr⟩ := h4 i d hi
    exact ⟨u, hu, hr.mono hs fun b _ hb => hM b hb⟩
  | box cs =>
    obtain ⟨b, arr, T, h1, h2, h3, h4⟩ := h
    refine ⟨b, arr, T, h1, h2, h3, fun i av hi => ?_⟩
    obtain ⟨v, hv, hg⟩ := h4 i av hi
    exact ⟨v, hv, hg.mono hs (fun b _ hb => hM b hb) fun _ _ h => h⟩
section
variable {P : Program} {ops : Array Oper} {md : Region.Mode} {Q Q' : Exit → Act → World → Prop} {S : World → Prop}
theorem wpOp_q (he : ∀ e, e ≠ .normal → Q e = Q' e) {i : Nat} {K : Act → World → Prop} {a : Act} {w : World} (h : wpOp P ops Q i K a w) : wpOp P ops Q' i K a w := by
  unfold wpOp at *
  split at h
  · exact h
  · split
    · rename_i hw
      rw [if_pos hw] at h
      rcases h with h | ⟨h1, a', w', h2⟩
      · exact .inl (wp_exits he h)
      · exact .inr ⟨h1, a', w', by rw [← he _ (by intro h; cases h)]; exact h2⟩
    · rename_i hw
      rw [if_neg hw] at h
      exact h
theorem anyH_q (hn : ∀ a w, Q .normal a w → Q' .normal a w) (he : ∀ e, e ≠ .normal → Q e = Q' e) : ∀ (f : Nat) (listed : Array Bool) (a : Act) (w : World), wpAnyH P md ops Q S f listed a w → wpAnyH P md ops Q' S f listed a w
  | 0, _, _, _, h => ⟨h.1, hn _ _ h.2⟩
  | f + 1, _, _, _, h => ⟨fun h0 => hn _ _ (h.1 h0), fun i hi => wpOp_q he (wpOp_mono (fun a' w' h' => ⟨h'.1, anyH_q hn he f _ a' w' h'.2⟩) (h.2 i hi))⟩
end
section
variable {P : Program} {k : Nat} {cx : Cx k} {ops : Array Oper} {st : St} {K : St → Prop} {S : World → Prop}
/-- What is left, told by listed, with the boxes at hand. -/
def hL [Zs] (P : Program) {k : Nat} (cx : Cx k) (ops : Array Oper) (K : St → Prop) (f : Nat) (listed : List Bool) (st : St) : Prop :=
  ∀ (ρ : Ids) (w : World) (a : Act), RelB ρ w st a → (∀ id b, foot ρ st.objs id b → b < cx.w0.heap.size → cx.M0 b) → (∀ (id : Nat) l, cx.ρ0[id]? = some l → ρ[id]? = some l) → Same cx.M0 cx.w0 w →
    wpAnyH P .any ops (lift cx (ThenK K)) (SF ρ st.objs w) f listed.toArray a w
def FOp (P : Program) (o : Oper) (st : St) (av : AV) : Prop :=
  ∀ (_ : Zs) (ρ : Ids) (w : World) (a : Act), RelB ρ w st a → ∃ v, Gm ρ w (Ban ρ st.objs) av v ∧ ∀ w1, SF ρ st.objs w w1 → (execOp a.eval o).run P w1 = .ok (.value v) w1
def POp (P : Program) (o : Oper) (st : St) (av : AV) : Prop :=
  ∀ (_ : Zs) (ρ : Ids) (w : World) (a : Act), RelB ρ w st a → ∃ v, Gm ρ w (Ban ρ st.objs) av v ∧ ∀ w1, (execOp a.eval o).run P w1 = .ok (.value v) w1
theorem POp.f {o : Oper} {av : AV} (h : POp P o st av) : FOp P o st av := fun zs ρ w a hb => by
  obtain ⟨v, h1, h2⟩ := h zs ρ w a hb
  exact ⟨v, h1, fun w1 _ => h2 w1⟩
/-- What is left, the boxes set aside. -/
def xH [Zs] (P : Program) {k : Nat} (cx : Cx k) (ops : Array Oper) (K : St → Prop) (S : World → Prop) (f : Nat) (listed : List Bool) (st : St) : Prop :=
  (∀ w, Same cx.M0 cx.w0 w → S w) → ∀ a w, Rel cx st a w → wpAnyH P .any ops (lift cx (ThenK K)) S f listed.toArray a w
def xHQ [Zs] (P : Program) {k : Nat} (cx : Cx k) (ops : Array Oper) (K : St → Prop) (S : World → Prop) (f : Nat) (listed : List Bool) : Exit → St → Prop
  | .normal, st => xH P cx ops K S f listed st
  | _, _ => False
def xHAll [Zs] (P : Program) {k : Nat} (cx : Cx k) (ops : Array Oper) (K : St → Prop) (S : World → Prop) (f : Nat) (listed : List Bool) (st : St) : List Nat → Prop
  | [] => True
  | i :: r => (∃ o, ops[i]? = some o ∧ aL P cx ops (xHQ P cx ops K S f (listed.set i true)) [o] st) ∧ xHAll P cx ops K S f listed st r
theorem xHAll_mem [Zs] {f : Nat} {listed : List Bool} : ∀ {l : List Nat}, xHAll P cx ops K S f listed st l → ∀ i ∈ l, ∃ o, ops[i]? = some o ∧ aL P cx ops (xHQ P cx ops K S f (listed.set i true)) [o] st
  | [], _, i, hi => by simp at hi
  | j :: l, h, i, hi => by
    rcases List.mem_cons.1 hi with rfl | hi
    · exact h.1
    · exact xHAll_mem h.2 i hi
theorem xh_done [Zs] {listed : List Bool} (hr : Region.ready .any ops listed.toArray = []) (h : K st) : xH P cx ops K S 0 listed st :=
  fun _ a w hrel => ⟨hr, st, h, hrel⟩
theorem xh_step [Zs] {f : Nat} {listed : List Bool} {i : Nat} {is : List Nat} (hr : Region.ready .any ops listed.toArray = i :: is) (h : xHAll P cx ops K S f listed st (i :: is)) : xH P cx ops K S (f + 1) listed st := by
  intro hS a w hrel
  refine ⟨fun h0 => (by rw [hr] at h0; cases h0), fun j hj => ?_⟩
  rw [hr] at hj
  obtain ⟨o, ho, hl⟩ := xHAll_mem h j hj
  have hw := hl a w hrel
  unfold wpOp
  simp only [ho]
  unfold wpList at hw
  have hnext : ∀ a' w', wpList P ops (lift cx (xHQ P cx ops K S f (listed.set j true))) [] a' w' → S w' ∧ wpAnyH P .any ops (lift cx (ThenK K)) S f (listed.toArray.setIfInBounds j true) a' w' := by
    rintro a' w' ⟨st', h1, h2⟩
    have := h1 hS a' w' h2
    exact ⟨hS _ h2.same, by rwa [show listed.toArray.setIfInBounds j true = (listed.set j true).toArray by simp]⟩
  have hex : ∀ e, e ≠ .normal → lift cx (xHQ P cx ops K S f (listed.set j true)) e = lift cx (ThenK K) e := by
    intro e he
    cases e <;> first | rfl | exact absurd rfl he
  split
  · rename_i hwant
    rw [if_pos hwant] at hw
    rcases hw with hw | ⟨h1, a', w', h2⟩
    · exact .inl (wp_exits hex (Oper.wp_mono hnext hw))
    · exact .inr ⟨h1, a', w', by rw [← hex _ (by intro h; cases h)]; exact h2⟩
  · rename_i hwant
    rw [if_neg hwant] at hw
    exact hnext _ _ hw
theorem xh_first [Zs] {f : Nat} {listed : List Bool} (i : Nat) {d : Tmp} {op : Op} {ty : TypeId} {pos : String} {af : Array Edge} {av : AV} (hi : ops[i]? = some ⟨some d, op, ty, pos, af, none⟩)
    (hb : (Region.noSelect ops && Region.free .any ops listed.toArray i && (Region.ready .any ops listed.toArray).contains i) = true)
    (hq : POp P ⟨some d, op, ty, pos, af, none⟩ st av) (hd : Nat.blt d st.n = true) (h : xH P cx ops K S f (listed.set i true) (st.put d av)) : xH P cx ops K S (f + 1) listed st := by
  simp only [Bool.and_eq_true] at hb
  obtain ⟨⟨b1, b2⟩, b3⟩ := hb
  intro hS a w hr
  obtain ⟨ρ, hrb, hf, h0⟩ := hr.base
  obtain ⟨v, hg, hv⟩ := hq _ ρ w a hrb
  have e : listed.toArray.setIfInBounds i true = (listed.set i true).toArray := by simp
  refine wpAnyH_take hi b1 b2 b3 (fun c a w hp => ?_) (v := v) (.inl ⟨by simp [Region.wanted], fun w1 _ => hv w1⟩) (hS _ hr.same) ?_
  · obtain ⟨st', h1, _⟩ := hp
    exact h1.elim
  · rw [e]
    exact h hS _ _ ⟨⟨ρ, hrb.put hd hg, hf, h0⟩, hr.same⟩
/-- What is banned within: what was banned, and the boxes. -/
abbrev zsB (zs : Zs) (ρ : Ids) (objs : List AO) : Zs := ⟨fun b => zs.z b ∨ BX ρ objs b⟩
/-! Laws. -/
variable {ty : TypeId} {pos : String} {af : Array Edge} {d : Option Tmp} {g : Option (Nat × Bool)} {T : TypeId} {x : Operand}
theorem P_move {av : AV} (hx : st.ev x = av) : POp P ⟨d, .move x, ty, pos, af, g⟩ st av := fun _ _ _ a hb => ⟨a.eval x, hx ▸ hb.ev x, fun _ => rfl⟩
theorem P_assign {av : AV} (hx : st.ev x = av) : POp P ⟨d, .assign x, ty, pos, af, g⟩ st av := fun _ _ _ a hb => ⟨a.eval x, hx ▸ hb.ev x, fun _ => rfl⟩
theorem P_fieldAddr {f off id o : Nat} (hx : st.ev x = .ptr id o) (ht : FlT P T f off) : POp P ⟨d, .fieldAddr T x f, ty, pos, af, g⟩ st (.ptr id (o + off)) := fun _ ρ w a hr => by
  have h := hr.ev x
  rw [hx] at h
  obtain ⟨b, l, he, hl⟩ := h.ptr_inv
  refine ⟨.pointer (some ⟨b, o + off, none⟩), .ptr id _ b l hl, fun w1 => ?_⟩
  simp [execOp, he, run_fieldAt ht, spot_add]
end
/-! On states that stand written out. -/
section
variable {P : Program} {k : Nat} {cx : Cx k} {ops : Array Oper} {K : St → Prop} {S : World → Prop} {ty : TypeId} {pos : String} {af : Array Edge} {d nn f : Nat} {vars : List (Nat × AV)} {objs objs' : List AO} {listed : List Bool}
theorem xw_first [Zs] (i : Nat) {op : Op} {av : AV} (hi : ops[i]? = some ⟨some d, op, ty, pos, af, none⟩) (hb : (Region.noSelect ops && Region.free .any ops listed.toArray i && (Region.ready .any ops listed.toArray).contains i) = true)
    (hq : POp P ⟨some d, op, ty, pos, af, none⟩ ⟨nn, vars, objs⟩ av) (hd : Nat.blt d nn = true) (h : xH P cx ops K S f (listed.set i true) ⟨nn, (d, av) :: vars, objs⟩) : xH P cx ops K S (f + 1) listed ⟨nn, vars, objs⟩ := xh_first i hi hb hq hd h
end
end Go.Proofs.YtbgecpjlopdkfaaDoor
