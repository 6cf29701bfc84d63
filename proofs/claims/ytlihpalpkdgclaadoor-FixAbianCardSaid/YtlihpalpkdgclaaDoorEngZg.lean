import Derived.Test.YtlihpalpkdgclaaDoorEngT
set_option linter.unusedSimpArgs false
set_option linter.unusedVariables false
set_option linter.unusedSectionVars false
namespace Go.Proofs.YtlihpalpkdgclaaDoor
section
variable {P : Program} {st : St} {d : Option Tmp} {ty : TypeId} {pos : String} {af : Array Edge} {g : Option (Nat × Bool)} {T T' : TypeId} {x y : Operand} {m : Nat} {n : Int}
theorem Q_ushrC {k' : IntKind} (hx : st.ev x = .val (.int .u64 (m : Int))) (hy : st.ev y = .val (.int k' n)) (h0 : 0 ≤ n ∧ n < 64) :
    QOp P ⟨d, .binOp .shr T x y T', ty, pos, af, g⟩ st (.val (.int .u64 ((m / 2 ^ n.toNat : Nat) : Int))) := Q_bin hx hy fun w => by
  have h1 : ¬ n < 0 := by omega
  have h2 : min n.toNat IntKind.u64.bits = n.toNat := shl_eq _ (by omega)
  have h3 : (m : Int).fdiv (2 ^ n.toNat) = ((m / 2 ^ n.toNat : Nat) : Int) := by
    rw [Int.fdiv_eq_ediv_of_nonneg _ (Int.le_of_lt (Int.pow_pos (by decide)))]
    simp
  simp only [binOp, Op.shift, if_neg h1, h2, h3]
  rfl
theorem Q_uandC (hx : st.ev x = .val (.int .u64 (m : Int))) (hy : st.ev y = .val (.int .u64 n)) (h0 : 0 ≤ n ∧ n < 18446744073709551616) :
    QOp P ⟨d, .binOp .and T x y T', ty, pos, af, g⟩ st (.val (.int .u64 ((m % 18446744073709551616 &&& n.toNat : Nat) : Int))) := Q_bin hx hy fun w => by
  have hn : n.toNat < 2 ^ 64 := by omega
  have e : (BitVec.ofInt 64 (m : Int) &&& BitVec.ofInt 64 n).toNat = m % 18446744073709551616 &&& n.toNat := by
    rw [bv_nat (by omega), bv_nat h0.1, BitVec.toNat_and, BitVec.toNat_ofNat, BitVec.toNat_ofNat, Nat.mod_eq_of_lt hn, Int.toNat_natCast]
  have hlt : m % 18446744073709551616 &&& n.toNat < 2 ^ 64 := Nat.and_lt_two_pow _ hn
  have hw : IntKind.u64.wrap ((m % 18446744073709551616 &&& n.toNat : Nat) : Int) = ((m % 18446744073709551616 &&& n.toNat : Nat) : Int) := IntWalk.u64_in _ (by omega)
  show Result.ok (Value.int .u64 (IntKind.u64.wrap ((BitVec.ofInt 64 (m : Int) &&& BitVec.ofInt 64 n).toNat : Int))) w = _
  rw [e, hw]
end
end Go.Proofs.YtlihpalpkdgclaaDoor
set_option linter.unusedSimpArgs false
set_option linter.unusedVariables false
set_option linter.unusedSectionVars false
namespace Go.Proofs.YtlihpalpkdgclaaDoor
open Go.RowKit
def frm (l : List AO) : List AO := l.map fun o => match o with | .box _ => .gone | o => o
def thaw : List AO → List AO → List AO
  | o :: l, o' :: l' => (match o with | .box c => .box c | _ => o') :: thaw l l'
  | [], l' => l'
  | _ :: _, [] => []
/-- A block of a box. -/
def BX (ρ : Ids) (objs : List AO) (b : Nat) : Prop := ∃ id c, objs[id]? = some (.box c) ∧ foot ρ objs id b
def SF (ρ : Ids) (objs : List AO) (w w1 : World) : Prop := ∀ b, BX ρ objs b → w1.heap[b]? = w.heap[b]?
theorem SatO.weak {ρ : Ids} {w : World} {M M' : Nat → Prop} {id : Nat} {o : AO} (hM : ∀ b, M' b → M b) (h : SatO ρ w M id o) : SatO ρ w M' id o := by
  have hs := Same.refl M w
  cases o with
  | gone => trivial
  | mat e e' m => exact h
  | mp m => exact h
  | row e sz cs =>
    obtain ⟨v, n, us, h1, h2, h3, h4⟩ := h
    refine ⟨v, n, us, h1, h2, h3, fun i d hi => ?_⟩
    obtain ⟨u, hu, hr⟩ := h4 i d hi
    exact ⟨u, hu, hr.mono hs fun b _ hb => hM b hb⟩
  | box cs =>
    obtain ⟨b, arr, T, h1, h2, h3, h4⟩ := h
    refine ⟨b, arr, T, h1, h2, h3, fun i av hi => ?_⟩
    obtain ⟨v, hv, hg⟩ := h4 i av hi
    exact ⟨v, hv, hg.mono hs (fun b _ hb => hM b hb) fun _ _ h => h⟩
section
variable {P : Program} {ops : Array Oper} {md : Region.Mode} {Q Q' : Exit → Act → World → Prop} {S : World → Prop}
end
section
variable {P : Program} {k : Nat} {cx : Cx k} {ops : Array Oper} {st : St} {K : St → Prop} {S : World → Prop}
/-- What is left, told by listed, with the boxes at hand. -/
def hL [Zs] (P : Program) {k : Nat} (cx : Cx k) (ops : Array Oper) (K : St → Prop) (f : Nat) (listed : List Bool) (st : St) : Prop :=
  ∀ (ρ : Ids) (w : World) (a : Act), RelB ρ w st a → (∀ id b, foot ρ st.objs id b → b < cx.w0.heap.size → cx.M0 b) → (∀ (id : Nat) l, cx.ρ0[id]? = some l → ρ[id]? = some l) → Same cx.M0 cx.w0 w →
    wpAnyH P .any ops (lift cx (ThenK K)) (SF ρ st.objs w) f listed.toArray a w
def FOp (P : Program) (o : Oper) (st : St) (av : AV) : Prop :=
  ∀ (_ : Zs) (ρ : Ids) (w : World) (a : Act), RelB ρ w st a → ∃ v, Gm ρ w (Ban ρ st.objs) av v ∧ ∀ w1, SF ρ st.objs w w1 → (execOp a.eval o).run P w1 = .ok (.value v) w1
def POp (P : Program) (o : Oper) (st : St) (av : AV) : Prop :=
  ∀ (_ : Zs) (ρ : Ids) (w : World) (a : Act), RelB ρ w st a → ∃ v, Gm ρ w (Ban ρ st.objs) av v ∧ ∀ w1, (execOp a.eval o).run P w1 = .ok (.value v) w1
theorem POp.f {o : Oper} {av : AV} (h : POp P o st av) : FOp P o st av := fun zs ρ w a hb => by
  obtain ⟨v, h1, h2⟩ := h zs ρ w a hb
  exact ⟨v, h1, fun w1 _ => h2 w1⟩
/-- What is left, the boxes set aside. -/
def xH [Zs] (P : Program) {k : Nat} (cx : Cx k) (ops : Array Oper) (K : St → Prop) (S : World → Prop) (f : Nat) (listed : List Bool) (st : St) : Prop :=
  (∀ w, Same cx.M0 cx.w0 w → S w) → ∀ a w, Rel cx st a w → wpAnyH P .any ops (lift cx (ThenK K)) S f listed.toArray a w
def xHQ [Zs] (P : Program) {k : Nat} (cx : Cx k) (ops : Array Oper) (K : St → Prop) (S : World → Prop) (f : Nat) (listed : List Bool) : Exit → St → Prop
  | .normal, st => xH P cx ops K S f listed st
  | _, _ => False
def xHAll [Zs] (P : Program) {k : Nat} (cx : Cx k) (ops : Array Oper) (K : St → Prop) (S : World → Prop) (f : Nat) (listed : List Bool) (st : St) : List Nat → Prop
  | [] => True
  | i :: r => (∃ o, ops[i]? = some o ∧ aL P cx ops (xHQ P cx ops K S f (listed.set i true)) [o] st) ∧ xHAll P cx ops K S f listed st r
/-- What is banned within: what was banned, and the boxes. -/
abbrev zsB (zs : Zs) (ρ : Ids) (objs : List AO) : Zs := ⟨fun b => zs.z b ∨ BX ρ objs b⟩
/-! Laws. -/
variable {ty : TypeId} {pos : String} {af : Array Edge} {d : Option Tmp} {g : Option (Nat × Bool)} {T : TypeId} {x : Operand}
end
/-! On states that stand written out. -/
section
variable {P : Program} {k : Nat} {cx : Cx k} {ops : Array Oper} {K : St → Prop} {S : World → Prop} {ty : TypeId} {pos : String} {af : Array Edge} {d nn f : Nat} {vars : List (Nat × AV)} {objs objs' : List AO} {listed : List Bool}
end
end Go.Proofs.YtlihpalpkdgclaaDoor
set_option linter.unusedSimpArgs false
set_option linter.unusedVariables false
set_option linter.unusedSectionVars false
namespace Go.Proofs.YtlihpalpkdgclaaDoor
open Go.RowKit
theorem gm_tup2 {ρ : Ids} {w : World} {M : Nat → Prop} {a b u : Value} (h : Gm ρ w M (.tup [.val a, .val b]) u) : u = .tuple #[a, b] := by
  generalize hav : AV.tup [.val a, .val b] = av at h
  cases h with
  | tup l vs hl h =>
    injection hav with hav
    subst hav
    have hs : vs.size = 2 := hl.symm
    have h0 := (h 0 (.val a) vs[0] rfl (Array.getElem?_eq_getElem (by omega))).val_inv
    have h1 := (h 1 (.val b) vs[1] rfl (Array.getElem?_eq_getElem (by omega))).val_inv
    congr 1
    apply Array.ext
    · exact hs
    · intro i h2 h3
      match i, h2 with
      | 0, _ => exact h0
      | 1, _ => exact h1
      | i + 2, h2 => exact absurd h2 (by omega)
  | _ => cases hav
section
variable {P : Program} {st : St} {ty : TypeId} {pos : String} {af : Array Edge}
theorem Q_callT2 {d : Option Tmp} {g : Operand} {xs : Array Operand} {ats : Array TypeId} {f : FuncId} {caps args : List AV} {x y : Value} {objs' : List AO} (hf : Callee' st g f caps) (hc : AC P f args [] (.tup [.val x, .val y]) objs') (hv : VwL st.objs [] (evs st xs ++ caps) args) {gd : Option (Nat × Bool)} :
    QOp P ⟨d, .call ⟨.value g, xs, ats⟩, ty, pos, af, gd⟩ st (.tup [.val x, .val y]) := by
  intro _ ρ w a hb
  refine ⟨.tuple #[x, y], .tup _ _ rfl (fun i av v h1 h2 => ?_), fun w1 hw => ?_⟩
  · match i, h1, h2 with
    | 0, h1, h2 => injection h1 with h1; injection h2 with h2; subst h1; subst h2; exact .val _
    | 1, h1, h2 => injection h1 with h1; injection h2 with h2; subst h1; subst h2; exact .val _
    | i + 2, h1, h2 => simp at h1
  have hb1 := hb.mono hw
  obtain ⟨cs, h1, h2, h3⟩ := callee_val hb1 hf
  have ho : VwOs st.objs [] [] := ⟨rfl, List.nodup_nil, fun id' o' h => by simp at h⟩
  obtain ⟨h4, h5⟩ := args_gm hb1 h2 h3 ho hv
  unfold Oper.quietAt
  rw [exec_call hc.1 h1]
  refine ⟨rfl, (hc.2 (reId ρ []) w1 _ (hb1.good.view ho) h4 h5).mono ?_⟩
  rintro e w' ⟨u, ρ', rfl, hs, _, hg, _, _⟩
  have hsm := hs.below (fun x _ ⟨id, h⟩ => by obtain ⟨o, l, h6, _⟩ := h; simp at h6)
  rw [gm_tup2 hg]
  exact ⟨rfl, hw.trans (hsm.mono hw.size)⟩
end
end Go.Proofs.YtlihpalpkdgclaaDoor
