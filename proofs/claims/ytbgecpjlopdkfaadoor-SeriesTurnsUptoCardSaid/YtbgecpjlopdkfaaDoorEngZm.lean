import Derived.Test.YtbgecpjlopdkfaaDoorEngZd
import Derived.Test.YtbgecpjlopdkfaaDoorEngT
import Derived.Laws.Slices
import Derived.Lib.AppendZeros
set_option linter.unusedSimpArgs false
set_option linter.unusedVariables false
set_option linter.unusedSectionVars false
namespace Go.Proofs.YtbgecpjlopdkfaaDoor
open Go.RowKit
/-- A region that draws its order, nothing set aside. -/
theorem a_holdX [Zs] {P : Program} {k : Nat} {cx : Cx k} {K : St → Prop} {st : St} {id : Nat} {l : List Oper} {n : Nat} {Q : Exit → St → Prop} (hm : P.follows .mixedOrders = true) (hn : l.length = n) (h : xH P cx l.toArray K (fun _ => True) n (List.replicate n false) st) : aC P cx (.region id l.toArray true) (thenA K Q) st := by
  subst hn
  refine a_mono (Q := ThenK K) ?_ fun e st h => by cases e <;> first | exact h | exact h.elim
  intro a w hr
  have hr2 := hr.mono (w' := { w with drawn := w.drawn + 1 }) ⟨rfl, rfl, rfl, Nat.le_refl _, fun _ _ => rfl⟩
  refine wp_region_held (S := fun _ => True) hm ?_
  have := h (fun _ _ => trivial) _ _ hr2
  simpa using this
end Go.Proofs.YtbgecpjlopdkfaaDoor
set_option linter.unusedSimpArgs false
set_option linter.unusedVariables false
set_option linter.unusedSectionVars false
namespace Go.Proofs.YtbgecpjlopdkfaaDoor
open Go.RowKit


section
variable {P : Program} {st : St} {d : Option Tmp} {ty : TypeId} {pos : String} {af : Array Edge} {g : Option (Nat × Bool)}
/-! Slices of tables. -/
def tabc (l : List (List (List Int))) : List Dat := l.map fun t => .sl 1 (rowc t)
def tabs (l : List (List (List Int))) : AV := .ro (.sl 1 (tabc l))
/-! Lattices one behind the other. -/
def latc : List (Int × List (List Int) × List (List Int)) → List Dat
  | [] => []
  | p :: r => .val (.int .i64 p.1) :: .sl 1 (rowc p.2.1) :: .sl 1 (rowc p.2.2) :: latc r
def lats (l : List (Int × List (List Int) × List (List Int))) : AV := .ro (.sl 3 (latc l))
abbrev latA (N : Int) (m j : List (List Int)) : AV := .agg [.val (.int .i64 N), rows m, rows j]
end

end Go.Proofs.YtbgecpjlopdkfaaDoor
set_option linter.unusedSimpArgs false
set_option linter.unusedVariables false
set_option linter.unusedSectionVars false
namespace Go.Proofs.YtbgecpjlopdkfaaDoor
section
variable {P : Program} {st : St} {d : Option Tmp} {ty : TypeId} {pos : String} {af : Array Edge} {g : Option (Nat × Bool)} {T T' e : TypeId} {x y ix : Operand} {m n : Nat}
theorem Q_tabix {b N i : Nat} {k : IntKind} (hx : st.ev x = .val (.pointer (some ⟨b, 0, none⟩))) (hi : st.ev ix = .val (.int k (i : Int))) (ht : ArT P T N e 1) (h : i < N) :
    QOp P ⟨d, .indexAddr T x ix, ty, pos, af, g⟩ st (.val (.pointer (some ⟨b, i, none⟩))) :=
  .run fun ρ w a hr => ⟨_, .val _, fun w1 _ => by
    have h1 : (i : Int) < (N : Int) := by omega
    have h2 : (0 : Int) ≤ (i : Int) := by omega
    simp [execOp, hr.evv hx, hr.evv hi, Instr.indexAt, Instr.sureAddr, asIntOf, run_underlying ht.1, ht.2.run, h1, spot_add]
    intro hh; omega⟩
theorem Q_tabld {b i : Nat} {cs : List Value} {v : Value} (hx : st.ev x = .val (.pointer (some ⟨b, i, none⟩))) (hm : (b, cs) ∈ Tab) (hc : cs[i]? = some v) (ht : ScT P T) :
    QOp P ⟨d, .load T x, ty, pos, af, g⟩ st (.val v) :=
  .run fun ρ w a hr => ⟨v, .val v, fun w1 hw => by
    have h0 := hr.good.tt.tb _ hm i v hc
    have : w1.cell? ⟨b, i, none⟩ = some v := by rw [hw.cell (p := ⟨b, i, none⟩) (World.block_lt_of_cell? w _ h0)]; exact h0
    simp [execOp, hr.evv hx, Instr.loadAt, Instr.sureAddr, run_loadSc ht _ this]⟩
theorem Q_uand (hx : st.ev x = .val (.int .u64 (m : Int))) (hy : st.ev y = .val (.int .u64 (n : Int))) (h1 : m < 18446744073709551616) (h2 : n < 18446744073709551616) :
    QOp P ⟨d, .binOp .and T x y T', ty, pos, af, g⟩ st (.val (.int .u64 ((m &&& n : Nat) : Int))) := by
  have := Q_uandC (P := P) (d := d) (ty := ty) (pos := pos) (af := af) (g := g) (T := T) (T' := T') hx hy ⟨by omega, by omega⟩
  rwa [Nat.mod_eq_of_lt h1, Int.toNat_natCast] at this
theorem Q_uneg (hx : st.ev x = .val (.int .u64 (m : Int))) : QOp P ⟨d, .unOp .neg T x, ty, pos, af, g⟩ st (.val (.int .u64 (((18446744073709551616 - m % 18446744073709551616) % 18446744073709551616 : Nat) : Int))) :=
  .run fun _ _ a hr => ⟨_, .val _, fun w1 _ => by
    have : IntKind.u64.wrap (0 - (m : Int)) = (((18446744073709551616 - m % 18446744073709551616) % 18446744073709551616 : Nat) : Int) := by rw [IntKind.wrap_u64]; omega
    simp only [execOp, hr.evv hx, Op.unary, Op.intArith, this]; rfl⟩
theorem Q_umul (hx : st.ev x = .val (.int .u64 (m : Int))) (hy : st.ev y = .val (.int .u64 (n : Int))) :
    QOp P ⟨d, .binOp .mul T x y T', ty, pos, af, g⟩ st (.val (.int .u64 ((m * n % 18446744073709551616 : Nat) : Int))) := Q_bin hx hy fun w => by
  show Result.ok (Value.int .u64 (IntKind.u64.wrap ((m : Int) * (n : Int)))) w = _
  rw [show IntKind.u64.wrap ((m : Int) * (n : Int)) = ((m * n % 18446744073709551616 : Nat) : Int) by rw [IntKind.wrap_u64, ← Int.natCast_mul]; omega]
theorem Q_usub (hx : st.ev x = .val (.int .u64 (m : Int))) (hy : st.ev y = .val (.int .u64 (n : Int))) (h : n ≤ m) (h2 : m < 18446744073709551616) :
    QOp P ⟨d, .binOp .sub T x y T', ty, pos, af, g⟩ st (.val (.int .u64 ((m - n : Nat) : Int))) := Q_bin hx hy fun w => by
  show Result.ok (Value.int .u64 (IntKind.u64.wrap ((m : Int) - (n : Int)))) w = _
  rw [show IntKind.u64.wrap ((m : Int) - (n : Int)) = ((m - n : Nat) : Int) by rw [IntKind.wrap_u64]; omega]
theorem Q_ueql {m n : Int} (hx : st.ev x = .val (.int .u64 m)) (hy : st.ev y = .val (.int .u64 n)) : QOp P ⟨d, .binOp .eql T x y T', ty, pos, af, g⟩ st (.val (.bool (decide (m = n)))) := Q_bin hx hy fun _ => by rw [← beq_dec]; rfl
theorem Q_ugtr {m n : Int} (hx : st.ev x = .val (.int .u64 m)) (hy : st.ev y = .val (.int .u64 n)) : QOp P ⟨d, .binOp .gtr T x y T', ty, pos, af, g⟩ st (.val (.bool (decide (n < m)))) := Q_bin hx hy fun _ => rfl
end
end Go.Proofs.YtbgecpjlopdkfaaDoor
set_option linter.unusedSimpArgs false
set_option linter.unusedVariables false
set_option linter.unusedSectionVars false
namespace Go.Proofs.YtbgecpjlopdkfaaDoor
mutual
/-- It hangs on nothing of the call's own. -/
def roA : AV → Bool
  | .val _ => true
  | .ro _ => true
  | .rpt _ _ => true
  | .agg l => roL l
  | .tup l => roL l
  | .clo _ l => roL l
  | _ => false
def roL : List AV → Bool
  | [] => true
  | a :: l => roA a && roL l
end
theorem roL_get : ∀ {l : List AV} {i : Nat} {a : AV}, roL l = true → l[i]? = some a → roA a = true
  | [], i, a, _, h => by simp at h
  | b :: l, 0, a, hl, h => by
    simp only [List.getElem?_cons_zero, Option.some.injEq] at h
    subst h
    unfold roL at hl
    exact (Bool.and_eq_true _ _ ▸ hl).1
  | b :: l, i + 1, a, hl, h => by
    unfold roL at hl
    exact roL_get (Bool.and_eq_true _ _ ▸ hl).2 (by simpa using h)
theorem roA_gm {ρ ρ' : Ids} {w : World} {M : Nat → Prop} {av : AV} {v : Value} (h : Gm ρ w M av v) : roA av = true → Gm ρ' w M av v := by
  induction h with
  | val v => exact fun _ => .val v
  | ro d v hr => exact fun _ => .ro d v hr
  | own id v l hv h1 => intro h; unfold roA at h; cases h
  | ptr id off b l hv => intro h; unfold roA at h; cases h
  | ept id k b n cap l hv => intro h; unfold roA at h; cases h
  | rpt a cs off us hsp hMk hc hr => exact fun _ => .rpt a cs off us hsp hMk hc hr
  | agg l vs hl _ ih => exact fun h => .agg l vs hl fun i av v h1 h2 => ih i av v h1 h2 (roL_get (by unfold roA at h; exact h) h1)
  | tup l vs hl _ ih => exact fun h => .tup l vs hl fun i av v h1 h2 => ih i av v h1 h2 (roL_get (by unfold roA at h; exact h) h1)
  | clo f l vs hl _ ih => exact fun h => .clo f l vs hl fun i av v h1 h2 => ih i av v h1 h2 (roL_get (by unfold roA at h; exact h) h1)
  | any v => intro h; unfold roA at h; cases h
mutual
theorem roA_fr : ∀ (a : AV) (id : Nat) (d : Dat), roA a = true → a.fr id d = a
  | .val _, _, _, _ => rfl
  | .ro _, _, _, _ => rfl
  | .rpt _ _, _, _, _ => rfl
  | .agg l, id, d, h => by
    show AV.agg (AV.frl id d l) = _
    rw [roL_frl l id d (by unfold roA at h; exact h)]
  | .tup l, id, d, h => by
    show AV.tup (AV.frl id d l) = _
    rw [roL_frl l id d (by unfold roA at h; exact h)]
  | .clo f l, id, d, h => by
    show AV.clo f (AV.frl id d l) = _
    rw [roL_frl l id d (by unfold roA at h; exact h)]
  | .own _, _, _, h => by unfold roA at h; cases h
  | .ptr _ _, _, _, h => by unfold roA at h; cases h
  | .ept _ _, _, _, h => by unfold roA at h; cases h
  | .any, _, _, h => by unfold roA at h; cases h
theorem roL_frl : ∀ (l : List AV) (id : Nat) (d : Dat), roL l = true → AV.frl id d l = l
  | [], _, _, _ => rfl
  | a :: l, id, d, h => by
    unfold roL at h
    obtain ⟨h1, h2⟩ := Bool.and_eq_true _ _ ▸ h
    show a.fr id d :: AV.frl id d l = _
    rw [roA_fr a id d h1, roL_frl l id d h2]
end
/-- What is known of a function, as a reading. -/
def fnd (cl : AV) : FnD := ⟨fun w M v => Gm [] w M cl v ∧ v.oneCell' = true, fun _ _ _ h => h.2, fun _ _ _ _ _ hs hM h => ⟨h.1.mono hs hM fun _ _ h => h, h.2⟩⟩
theorem Rd.fn_inv {w : World} {M : Nat → Prop} {v : Value} {d : Dat} (h : Rd w M v d) {F : FnD} (e : d = .fn F) : F.p w M v := by
  cases h with
  | fn F' _ hp => cases e; exact hp
  | val => cases e
  | nil => cases e
  | sl => cases e
section
variable {P : Program} {k : Nat} {cx : Cx k} {ops : Array Oper} {Q : Exit → St → Prop} {st : St} {rest : List Oper}
theorem rel_fn [Zs] {a : Act} {w : World} (t : Nat) {cl : AV} (h : st.get t = .ro (.fn (fnd cl))) (hro : roA cl = true) (hr : Rel cx st a w) : Rel cx (st.put t cl) a w := by
  obtain ⟨⟨ρ, hb, hf, h0⟩, hs⟩ := hr
  refine ⟨⟨ρ, ⟨fun t' => ?_, hb.size, hb.defers, hb.good⟩, hf, h0⟩, hs⟩
  show Gm ρ w _ (getv ((t, cl) :: st.vars) t') _
  rw [getv_cons]
  by_cases ht : t = t'
  · subst ht
    rw [if_pos rfl]
    have := hb.frame t
    rw [h] at this
    exact roA_gm (Rd.fn_inv this.ro_inv rfl).1 hro
  · rw [if_neg ht]
    exact hb.frame t'
theorem w_fn [Zs] {n : Nat} {vars : List (Nat × AV)} {objs : List AO} (t : Nat) {cl : AV} (h : St.get ⟨n, vars, objs⟩ t = .ro (.fn (fnd cl))) (hro : roA cl = true) (hk : aL P cx ops Q rest ⟨n, (t, cl) :: vars, objs⟩) : aL P cx ops Q rest ⟨n, vars, objs⟩ :=
  fun a w hr => hk a w (rel_fn t h hro hr)
theorem rel_boxfn [Zs] {a : Act} {w : World} (id o : Nat) {cells : List AV} {cl : AV} (ho : st.objs[id]? = some (.box cells)) (hc : cells[o]? = some cl) (hro : roA cl = true) (h1' : cl.one = true) (hr : Rel cx st a w) :
    Rel cx (st.set id (.box (cells.set o (.ro (.fn (fnd cl)))))) a w := by
  obtain ⟨⟨ρ, hb, hf, h0⟩, hs⟩ := hr
  have hid := (List.getElem?_eq_some_iff.1 ho).1
  have hoc := (List.getElem?_eq_some_iff.1 hc).1
  have hfoot : ∀ {i x}, foot ρ (st.objs.set id (.box (cells.set o (.ro (.fn (fnd cl)))))) i x → foot ρ st.objs i x := by
    intro i x h
    rcases foot_set hid h with ⟨rfl, _, l, h5, h6⟩ | ⟨_, h⟩
    · exact ⟨_, l, ho, rfl, h5, h6⟩
    · exact h
  have hM : ∀ b, Ban ρ (st.objs.set id (.box (cells.set o (.ro (.fn (fnd cl)))))) b → Ban ρ st.objs b := fun b h => h.elim (fun ⟨i, h⟩ => .inl ⟨i, hfoot h⟩) .inr
  have hgm : ∀ {av v}, Gm ρ w (Ban ρ st.objs) av v → Gm ρ w (Ban ρ (st.objs.set id (.box (cells.set o (.ro (.fn (fnd cl))))))) av v := fun h => h.mono (Same.refl _ _) (fun b _ h => hM b h) fun _ _ h => h
  refine ⟨⟨ρ, ⟨fun t' => hgm (hb.frame t'), hb.size, hb.defers, ⟨?_, fun i o2 hi => ?_, fun i j x hi hj => hb.good.dis i j x (hfoot hi) (hfoot hj), fun i x h => hb.good.zf i x (hfoot h), hb.good.zl, hb.good.tt.step (Same.refl _ _) fun b _ ⟨i, h⟩ => ⟨i, hfoot h⟩⟩⟩, fun i b h hlt => hf i b (hfoot h) hlt, h0⟩, hs⟩
  · show ρ.length = (st.objs.set id _).length
    rw [List.length_set]; exact hb.good.len
  · change (st.objs.set id _)[i]? = some o2 at hi
    by_cases he : i = id
    · subst he
      rw [List.getElem?_set_self hid] at hi
      obtain rfl := Option.some.inj hi
      obtain ⟨b, arr, T, a1, a2, a3, a4⟩ := hb.good.sat i _ ho
      refine ⟨b, arr, T, a1, a2, by rw [List.length_set]; exact a3, fun j av hj => ?_⟩
      by_cases hjo : j = o
      · subst hjo
        rw [List.getElem?_set_self hoc] at hj
        obtain rfl := Option.some.inj hj
        obtain ⟨v, hv, hg⟩ := a4 j _ hc
        exact ⟨v, hv, .ro _ _ (.fn _ _ ⟨roA_gm (hgm hg) hro, hg.one h1'⟩)⟩
      · rw [List.getElem?_set_ne (Ne.symm hjo)] at hj
        obtain ⟨v, hv, hg⟩ := a4 j av hj
        exact ⟨v, hv, hgm hg⟩
    · rw [List.getElem?_set_ne (Ne.symm he)] at hi
      have hsat := hb.good.sat i o2 hi
      cases o2 with
      | gone => trivial
      | mat e e' m => exact hsat
      | mp m => exact hsat
      | bld T e cs => exact hsat
      | row e sz cs =>
        obtain ⟨v, n, us, a1, a2, a3, a4⟩ := hsat
        refine ⟨v, n, us, a1, a2, a3, fun j dt hj => ?_⟩
        obtain ⟨u, hu, hrd⟩ := a4 j dt hj
        exact ⟨u, hu, hrd.mono (Same.refl _ _) fun b _ h => hM b h⟩
      | box l =>
        obtain ⟨b, arr, T, a1, a2, a3, a4⟩ := hsat
        refine ⟨b, arr, T, a1, a2, a3, fun j av hj => ?_⟩
        obtain ⟨v, hv, hg⟩ := a4 j av hj
        exact ⟨v, hv, hgm hg⟩
end
end Go.Proofs.YtbgecpjlopdkfaaDoor
