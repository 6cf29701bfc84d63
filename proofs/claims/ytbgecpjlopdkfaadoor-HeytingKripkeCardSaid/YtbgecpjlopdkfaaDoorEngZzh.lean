import Derived.Test.YtbgecpjlopdkfaaDoorEngZp
import Derived.Test.YtbgecpjlopdkfaaDoorEngZd
import Derived.Test.YtbgecpjlopdkfaaDoorEngT
import Derived.Laws.CopyRow
import Derived.Laws.Slices
import Derived.WideKeyArr
import Derived.StringKeys
set_option linter.unusedSimpArgs false
set_option linter.unusedVariables false
set_option linter.unusedSectionVars false
namespace Go.Proofs.YtbgecpjlopdkfaaDoor
open Go.RowKit Go.MapKept Go.WideMaps
section
variable {κ : Type} [DecidableEq κ]
def gget : List (κ × Int) → κ → Option Int
  | [], _ => none
  | p :: r, k => if p.1 = k then some p.2 else gget r k
def gput : List (κ × Int) → κ → Int → List (κ × Int)
  | [], k, v => [(k, v)]
  | p :: r, k, v => if p.1 = k then (k, v) :: r else p :: gput r k v
/-- The entries, as the machine holds them. -/
def gmi (ke : κ → Value) (l : List (κ × Int)) : List (Value × Value) := l.map fun p => (ke p.1, .int .i64 p.2)
/-- A type of maps from such keys to numbers. -/
structure KeyE (P : Program) (t : TypeId) (ke : κ → Value) (ok : κ → Prop) : Prop where
  ex : ∃ kt et, P.underlying t = some (.map kt et) ∧ MkT P et (.int .i64 0) 1 8 ∧ KeyLaw P kt ∧ (∀ k, ok k → ∃ l, keyOf P kt (ke k) = some l) ∧ (∀ a b, ok a → ok b → ke a = ke b → a = b)
variable {P : Program} {ke : κ → Value} {ok : κ → Prop}
end
section
variable {κ : Type} [DecidableEq κ] {ke : κ → Value} {ok : κ → Prop} {P : Program} {st : St} {d : Option Tmp} {ty : TypeId} {pos : String} {af : Array Edge} {g : Option (Nat × Bool)}
/-- Values that an operand stands for, told as cells. -/
def valA (l : List Value) : AV := .agg (l.map .val)
end
/-- Keys that are arrays of whole numbers. -/
def arrK (l : List Nat) : Value := .agg (l.map fun (v : Nat) => Value.int .i64 v).toArray
structure ArrK (P : Program) (t : TypeId) (n : Nat) : Prop where
  ex : ∃ kt et e, P.underlying t = some (.map kt et) ∧ MkT P et (.int .i64 0) 1 8 ∧ ArrKey P kt e n ∧ P.underlying e = some (.int .i64)
  sz : ∃ m, P.types.size = m + 1
end Go.Proofs.YtbgecpjlopdkfaaDoor
set_option linter.unusedSimpArgs false
set_option linter.unusedVariables false
set_option linter.unusedSectionVars false
namespace Go.Proofs.YtbgecpjlopdkfaaDoor
open Go.RowKit
section
variable {P : Program} {k : Nat} {cx : Cx k} {ops : Array Oper} {st : St} {K : St → Prop} {S : World → Prop}
/-- What is left, told by listed; nothing but own memory changes. -/
def rL [Zs] (P : Program) {k : Nat} (cx : Cx k) (ops : Array Oper) (K : St → Prop) (f : Nat) (listed : List Bool) (st : St) : Prop :=
  ∀ (ρ : Ids) (w : World) (a : Act), RelB ρ w st a → (∀ id b, foot ρ st.objs id b → b < cx.w0.heap.size → cx.M0 b) → (∀ (id : Nat) l, cx.ρ0[id]? = some l → ρ[id]? = some l) → Same cx.M0 cx.w0 w →
    wpAnyH P .any ops (lift cx (ThenK K)) (Same (Own ρ st.objs) w) f listed.toArray a w
def ROp (P : Program) (o : Oper) (st : St) (av : AV) : Prop :=
  ∀ (_ : Zs) (ρ : Ids) (w : World) (a : Act), RelB ρ w st a → ∃ v, Gm ρ w (Ban ρ st.objs) av v ∧ ∀ w1, Same (Own ρ st.objs) w w1 → (execOp a.eval o).run P w1 = .ok (.value v) w1
theorem POp.r {o : Oper} {av : AV} (h : POp P o st av) : ROp P o st av := fun zs ρ w a hb => by
  obtain ⟨v, h1, h2⟩ := h zs ρ w a hb
  exact ⟨v, h1, fun w1 _ => h2 w1⟩
theorem r_first [Zs] {f : Nat} {listed : List Bool} (i : Nat) {d : Tmp} {op : Op} {ty : TypeId} {pos : String} {af : Array Edge} {av : AV} (hi : ops[i]? = some ⟨some d, op, ty, pos, af, none⟩)
    (hb : (Region.noSelect ops && Region.free .any ops listed.toArray i && (Region.ready .any ops listed.toArray).contains i) = true)
    (hq : ROp P ⟨some d, op, ty, pos, af, none⟩ st av) (hd : Nat.blt d st.n = true) (h : rL P cx ops K f (listed.set i true) (st.put d av)) : rL P cx ops K (f + 1) listed st := by
  simp only [Bool.and_eq_true] at hb
  obtain ⟨⟨b1, b2⟩, b3⟩ := hb
  intro ρ w a hr hf h0 hs
  obtain ⟨v, hg, hv⟩ := hq _ ρ w a hr
  have e : listed.toArray.setIfInBounds i true = (listed.set i true).toArray := by simp
  refine wpAnyH_take hi b1 b2 b3 (fun c a w hp => ?_) (v := v) (.inl ⟨by simp [Region.wanted], hv⟩) (Same.refl _ _) ?_
  · obtain ⟨st', h1, _⟩ := hp
    exact h1.elim
  · rw [e]
    exact h ρ w _ (hr.put hd hg) hf h0 hs
theorem r_frame [Zs] {f : Nat} {listed : List Bool} (h : ∀ (cx1 : Cx st.objs.length) (S : World → Prop), xH P cx1 ops K S f listed st) : rL P cx ops K f listed st := by
  intro ρ w a hr hf h0 hs
  have hg := hr.good
  let cx1 : Cx st.objs.length := ⟨w, Own ρ st.objs, ρ, hg.len⟩
  have hrel : Rel cx1 st a w := ⟨⟨ρ, hr, fun id b hb _ => ⟨id, hb⟩, fun _ _ h => h⟩, Same.refl _ w⟩
  refine anyH_q ?_ ?_ _ _ _ _ (h cx1 (Same (Own ρ st.objs) w) (fun w1 h1 => h1) a w hrel)
  · rintro a' w' ⟨st', hK, hr'⟩
    obtain ⟨ρ', hb', hf', h0'⟩ := hr'.base
    have hsm : Same (Own ρ st.objs) w w' := hr'.same
    refine ⟨st', hK, ⟨ρ', hb', fun id b hb hlt => ?_, fun id l hl => h0' _ _ (h0 id l hl)⟩, hs.trans hsm fun x hx ⟨id, hfo⟩ => hf id x hfo hx⟩
    obtain ⟨id2, h2⟩ := hf' id b hb (Nat.lt_of_lt_of_le hlt hs.size)
    exact hf id2 b h2 hlt
  · intro e he
    funext a' w'
    apply propext
    constructor
    · rintro ⟨st', h1, _⟩
      cases e <;> first | exact absurd rfl he | exact h1.elim
    · rintro ⟨st', h1, _⟩
      cases e <;> first | exact absurd rfl he | exact h1.elim
theorem a_holdR [Zs] {id : Nat} {l : List Oper} {n : Nat} {Q : Exit → St → Prop} (hm : P.follows .mixedOrders = true) (hn : l.length = n) (h : rL P cx l.toArray K n (List.replicate n false) st) : aC P cx (.region id l.toArray true) (thenA K Q) st := by
  subst hn
  refine a_mono (Q := ThenK K) ?_ fun e st h => by cases e <;> first | exact h | exact h.elim
  intro a w hr
  have hr2 := hr.mono (w' := { w with drawn := w.drawn + 1 }) ⟨rfl, rfl, rfl, Nat.le_refl _, fun _ _ => rfl⟩
  obtain ⟨ρ, hb, hf, h0⟩ := hr2.base
  refine wp_region_held (S := Same (Own ρ st.objs) { w with drawn := w.drawn + 1 }) hm ?_
  have := h ρ _ a hb hf h0 hr2.same
  simpa using this
/-! Laws. -/
variable {ty : TypeId} {pos : String} {af : Array Edge} {d : Option Tmp} {g : Option (Nat × Bool)} {T : TypeId} {x : Operand}
theorem P_fieldAddrR {f off : Nat} {cs : List Dat} {o : Nat} (hx : st.ev x = .rpt cs o) (ht : FlT P T f off) : POp P ⟨d, .fieldAddr T x f, ty, pos, af, g⟩ st (.rpt cs (o + off)) := fun _ ρ w a hr => by
  have h := hr.ev x
  rw [hx] at h
  obtain ⟨ad, us, he, hsp, hM, hc, hd⟩ := h.rpt_inv
  have e : (ad.add o).add off = ad.add (o + off) := add_add' ad _ _
  refine ⟨.pointer (some (ad.add (o + off))), .rpt ad cs (o + off) us hsp hM hc hd, fun w1 => ?_⟩
  simp [execOp, he, run_fieldAt ht, e]
theorem R_fieldAddr_rpt {f off : Nat} {cs : List Dat} {o : Nat} (hx : st.ev x = .rpt cs o) (ht : FlT P T f off) : ROp P ⟨d, .fieldAddr T x f, ty, pos, af, g⟩ st (.rpt cs (o + off)) := POp.r (P_fieldAddrR hx ht)
theorem same_cell {ρ : Ids} {w w1 : World} {objs : List AO} [Zs] {ad : Addr} {j : Nat} {v : Value} (hM : ¬ Ban ρ objs ad.block) (hc : w.cell? (ad.add j) = some v) (hs : Same (Own ρ objs) w w1) : w1.cell? (ad.add j) = some v :=
  hs.cell hc fun h => hM (.inl (by rwa [show (ad.add j).block = ad.block by unfold Addr.add; split <;> rfl] at h))
theorem R_ld_rs {cs : List Dat} {o : Nat} {dt : Dat} (hx : st.ev x = .rpt cs o) (hc : cs[o]? = some dt) (ht : ScT P T) : ROp P ⟨d, .load T x, ty, pos, af, g⟩ st (.ro dt) := fun zs ρ w a hr => by
  have h := hr.ev x
  rw [hx] at h
  obtain ⟨ad, us, he, hsp, hM, hcl, hd⟩ := h.rpt_inv
  refine ⟨us o, .ro _ _ (hd o dt hc), fun w1 hw => ?_⟩
  have := same_cell (hM o (List.getElem?_eq_some_iff.1 hc).1) (hcl o _ hc) hw
  simp [execOp, he, Instr.loadAt, Instr.sureAddr, run_loadSc ht _ this]
end
section
variable {P : Program} {k : Nat} {cx : Cx k} {ops : Array Oper} {K : St → Prop} {S : World → Prop} {ty : TypeId} {pos : String} {af : Array Edge} {d nn f : Nat} {vars : List (Nat × AV)} {objs objs' : List AO} {listed : List Bool}
theorem rw_first [Zs] (i : Nat) {op : Op} {av : AV} (hi : ops[i]? = some ⟨some d, op, ty, pos, af, none⟩) (hb : (Region.noSelect ops && Region.free .any ops listed.toArray i && (Region.ready .any ops listed.toArray).contains i) = true)
    (hq : ROp P ⟨some d, op, ty, pos, af, none⟩ ⟨nn, vars, objs⟩ av) (hd : Nat.blt d nn = true) (h : rL P cx ops K f (listed.set i true) ⟨nn, (d, av) :: vars, objs⟩) : rL P cx ops K (f + 1) listed ⟨nn, vars, objs⟩ := r_first i hi hb hq hd h
theorem rw_frame [Zs] (h : ∀ (cx1 : Cx objs.length) (S : World → Prop), xH P cx1 ops K S f listed ⟨nn, vars, objs⟩) : rL P cx ops K f listed ⟨nn, vars, objs⟩ := r_frame h
end
/-! copy(key[:], s): key an array variable of whole numbers, s read. -/
def pad (cur ns : List Nat) : List Nat := ns ++ cur.drop ns.length
def natV (l : List Nat) : List AV := l.map fun (v : Nat) => AV.val (.int .i64 v)
end Go.Proofs.YtbgecpjlopdkfaaDoor
