import Derived.Test.YtbgecpjlopdkfaaDoorEngA
import Derived.Test.YtbgecpjlopdkfaaDoorEngZm
import Derived.Test.YtbgecpjlopdkfaaDoorEngZd
import Derived.Test.YtbgecpjlopdkfaaDoorEngT
import Derived.Laws.CopyRow
import Derived.Laws.Slices
import Derived.Sort.Grow
set_option linter.unusedSimpArgs false
set_option linter.unusedVariables false
set_option linter.unusedSectionVars false
namespace Go.Proofs.YtbgecpjlopdkfaaDoor
theorem AC.vw0 {P : Program} {f : FuncId} {args : List AV} {res res2 : AV} {objs' : List AO} (h : AC P f args [] res objs') (hv : Vw objs' [] res res2) : AC P f args [] res2 [] := by
  obtain ⟨h1, h2⟩ := h
  refine ⟨h1, ?_⟩
  intro _ ρ w vs hg hsz ha
  refine Calls.mono (h2 ρ w vs hg hsz ha) ?_
  rintro e w' ⟨v, ρ', he, hs, hg', hm, hid, hown⟩
  have hρ : ρ = [] := List.eq_nil_of_length_eq_zero (by have := hg.len; simpa using this)
  have ho : VwOs objs' [] [] := VwOs.mk (by decide) trivial
  refine ⟨v, [], he, hs, ?_, ?_, ?_, ?_⟩
  · have := hg'.view ho; exact this
  · have := hv.gm hg' ho v hm; exact this
  · intro id l hl; subst hρ; exact hl
  · rintro b ⟨id, o, l, h1, _⟩ _
    simp at h1
end Go.Proofs.YtbgecpjlopdkfaaDoor
set_option linter.unusedSimpArgs false
set_option linter.unusedVariables false
set_option linter.unusedSectionVars false
namespace Go.Proofs.YtbgecpjlopdkfaaDoor
open Go.RowKit
section
variable {P : Program} {st : St} {d : Option Tmp} {ty : TypeId} {pos : String} {af : Array Edge} {g : Option (Nat × Bool)} {T T' : TypeId} {x y ix : Operand}
theorem Q_ugeq {m n : Int} (hx : st.ev x = .val (.int .u64 m)) (hy : st.ev y = .val (.int .u64 n)) : QOp P ⟨d, .binOp .geq T x y T', ty, pos, af, g⟩ st (.val (.bool (decide (n ≤ m)))) := Q_bin hx hy fun _ => rfl
theorem Q_ixStr {s : ByteArray} {b : UInt8} {k : IntKind} {i : Nat} (hx : st.ev x = .val (.string s)) (hi : st.ev ix = .val (.int k (i : Int))) (hb : s[i]? = some b) (ht : P.underlying T = some .string) : QOp P ⟨d, .index T x ix, ty, pos, af, g⟩ st (.val (.int .u8 (b.toNat : Int))) :=
  .run fun ρ w a hr => ⟨_, .val _, fun w1 _ => by
    have h0 : (0 : Int) ≤ (i : Int) := by omega
    simp only [execOp, hr.evv hx, hr.evv hi, Instr.index, asIntOf, Sem.run_bind, Sem.run_pure, Result.andThen_ok, run_underlying ht]
    simp [h0, hb]⟩
end
end Go.Proofs.YtbgecpjlopdkfaaDoor
set_option linter.unusedSimpArgs false
set_option linter.unusedVariables false
set_option linter.unusedSectionVars false
namespace Go.Proofs.YtbgecpjlopdkfaaDoor
open Go.RowKit
/-- A row of numbers, written over as the shelf says it. -/
theorem put_turnG [Zs] {ρ : Ids} {w : World} {t : TypeId} {l r : List Int} {q b cap : Nat} {cur : Array Value} {os : Array Obj} (hg : Good ρ w [.row t 1 (intc l)]) (hρ : ρ[0]? = some [.slice (some ⟨b, 0, none⟩) l.length cap]) (hh : w.heap[b]? = some (.cells cur t (0, 0)))
    (hnc : l.length ≤ cap) (hcm : cap ≤ maxLen) (hcs : cur.size = cap) (hr : r.length = l.length) : ∃ w', w' = Go.Sort.grow (Go.Sort.putRow (Value.int .i64) (Go.Sort.ahead w q) b 0 r.toArray) os ∧
    Same (Own ρ [.row t 1 (intc l)]) w w' ∧ Good ρ w' [.row t 1 (intc r)] ∧ ∃ cur' : Array Value, w'.heap[b]? = some (.cells cur' t (0, 0)) ∧ cur'.size = cap ∧ cur'.toList.take l.length = r.map (Value.int .i64) := by
  refine ⟨_, rfl, ?_⟩
  generalize hw : Go.Sort.grow (Go.Sort.putRow (Value.int .i64) (Go.Sort.ahead w q) b 0 r.toArray) os = w'
  have hbl : b < w.heap.size := (Array.getElem?_eq_some_iff.1 hh).1
  have hheap : ∀ k, k < w.heap.size → w'.heap[k]? = if b = k then (w.heap[k]?).map (Go.Sort.onCells (Go.Sort.putCells (Value.int .i64) 0 r.toArray)) else w.heap[k]? := fun k hk => by
    rw [← hw, Go.Sort.heap_grow_old _ _ (by simpa [Go.Sort.putRow, Go.Sort.mapBlock, Go.Sort.ahead] using hk)]
    simp only [Go.Sort.putRow, Go.Sort.mapBlock, Go.Sort.ahead, Array.getElem?_modify]
  have hsz : w.heap.size ≤ w'.heap.size := by rw [← hw]; simp [Go.Sort.putRow, Go.Sort.mapBlock, Go.Sort.ahead]
  have hs : Same (fun x => x = b) w w' := ⟨by rw [← hw]; rfl, by rw [← hw]; rfl, by rw [← hw]; rfl, hsz, fun k hk hn => by rw [hheap k hk, if_neg fun h => hn h.symm]⟩
  obtain ⟨cur', hcur'⟩ : ∃ cur', cur' = Go.Sort.putCells (Value.int .i64) 0 r.toArray cur := ⟨_, rfl⟩
  have hb' : w'.heap[b]? = some (.cells cur' t (0, 0)) := by rw [hheap b hbl, if_pos rfl, hh, hcur']; rfl
  have hcs' : cur'.size = cap := by rw [hcur']; simp [Go.Sort.putCells, hcs]
  have htk : cur'.toList.take l.length = r.map (Value.int .i64) := by
    apply List.ext_getElem
    · simp [hcs', hr]; omega
    · intro i h1 h2
      simp at h1 h2
      simp only [List.getElem_take, Array.getElem_toList, List.getElem_map, hcur', Go.Sort.putCells, Array.getElem_mapIdx]
      rw [if_pos ⟨Nat.zero_le _, by simp; omega⟩]
      simp [h2]
  have key := hg.turn (o' := .row t 1 (intc r)) (id := 0) rfl rfl hρ (b := b) rfl hs (sat_row hρ (us := r.map (Value.int .i64)) ⟨by simp [hr], .inr ⟨b, cap, cur', rfl, Nat.zero_le _, hb', hnc, hcm, by simpa using hcs', by simpa using htk⟩⟩ (by simp [intc]) fun j dt hj => by
    simp only [intc, List.getElem?_map] at hj
    cases hx : r[j]? with
    | none => rw [hx] at hj; cases hj
    | some x =>
      rw [hx] at hj
      obtain rfl := Option.some.inj hj
      exact ⟨.int .i64 x, by rw [List.getElem?_map, hx]; rfl, .val _⟩)
  exact ⟨key.2.2, key.1, cur', hb', hcs', htk⟩
/-- What a row of numbers is. -/
theorem row_is [Zs] {ρ : Ids} {w : World} {t : TypeId} {l : List Int} (hg : Good ρ w [.row t 1 (intc l)]) {v : Value} (hv : Gm ρ w (Ban ρ [.row t 1 (intc l)]) (.own 0) v) : ρ[0]? = some [v] ∧ ((l = [] ∧ v = .slice none 0 0) ∨
    ∃ b cap cur, v = .slice (some ⟨b, 0, none⟩) l.length cap ∧ w.heap[b]? = some (.cells cur t (0, 0)) ∧ l.length ≤ cap ∧ cap ≤ maxLen ∧ cur.size = cap ∧ b < w.heap.size ∧ Go.Sort.Holds (Value.int .i64) w b 0 l.toArray) := by
  obtain ⟨v', n, us, h1, h2, h3, h4⟩ := hg.sat 0 _ rfl
  obtain ⟨lv, hl⟩ := hv.own_inv
  rw [h1] at hl
  obtain ⟨rfl, rfl⟩ := List.cons.inj (Option.some.inj hl)
  have hil : (intc l).length = l.length := by simp [intc]
  rw [hil] at h3
  have hul := h2.1
  refine ⟨h1, ?_⟩
  rcases h2.2 with ⟨rfl, hn⟩ | ⟨b, cap, cur, rfl, _, hh, hnc, hcm, hcs, htk⟩
  · exact .inl ⟨List.eq_nil_of_length_eq_zero (by omega), rfl⟩
  · have hn : n = l.length := by omega
    subst hn
    refine .inr ⟨b, cap, cur, rfl, hh, hnc, hcm, by simpa using hcs, (Array.getElem?_eq_some_iff.1 hh).1, fun j hj => ?_⟩
    have hj' : j < l.length := by simpa using hj
    have hd : (intc l)[j]? = some (.val (.int .i64 l[j])) := by simp [intc, hj']
    obtain ⟨u, hu, hr⟩ := h4 j _ hd
    have hux : u = .int .i64 l[j] := by cases hr; rfl
    subst hux
    have hc : cur[j]? = some (.int .i64 l[j]) := by
      rw [← htk, List.getElem?_take] at hu
      split at hu
      · rw [← Array.getElem?_toList]; exact hu
      · cases hu
    constructor
    · simp [World.cell?, hh, hc, hj']
    · simp [World.frozen?, hh]
end Go.Proofs.YtbgecpjlopdkfaaDoor
set_option linter.unusedSimpArgs false
set_option linter.unusedVariables false
set_option linter.unusedSectionVars false
namespace Go.Proofs.YtbgecpjlopdkfaaDoor
open Go.RowKit
section
variable {P : Program} {k : Nat} {cx : Cx k} {ops : Array Oper} {st : St} {K : St → Prop} {S : World → Prop}
theorem a_holdN [Zs] {id : Nat} {l : List Oper} {n : Nat} {Q : Exit → St → Prop} (hm : P.follows .mixedOrders = true) (hn : l.length = n) (h : xH P cx l.toArray (fun st => Q .normal st) (fun _ => True) n (List.replicate n false) st) : aC P cx (.region id l.toArray true) Q st :=
  a_mono (a_holdX (Q := Q) hm hn h) fun e st h => by cases e <;> exact h
end
theorem w_boxfnL [Zs] {P : Program} {k : Nat} {cx : Cx k} {ops : Array Oper} {Q : Exit → St → Prop} {rest : List Oper} {n : Nat} {vars : List (Nat × AV)} {objs objs' : List AO} (id o : Nat) {cells : List AV} {cl : AV} (ho : objs[id]? = some (.box cells)) (hc : cells[o]? = some cl) (hro : roA cl = true) (h1 : cl.one = true) (hob : objs.set id (.box (cells.set o (.ro (.fn (fnd cl))))) = objs')
    (hk : aL P cx ops Q rest ⟨n, vars, objs'⟩) : aL P cx ops Q rest ⟨n, vars, objs⟩ := by
  subst hob
  exact fun a w hr => hk a w (rel_boxfn (st := ⟨n, vars, objs⟩) id o ho hc hro h1 hr)
end Go.Proofs.YtbgecpjlopdkfaaDoor
set_option linter.unusedSimpArgs false
set_option linter.unusedVariables false
set_option linter.unusedSectionVars false
namespace Go.Proofs.YtbgecpjlopdkfaaDoor
open Go.RowKit
section
variable {P : Program} {k : Nat} {cx : Cx k} {ops : Array Oper} {st : St} {K : St → Prop} {S : World → Prop}
/-- What is left, told by listed; nothing but own memory changes. -/
def rL [Zs] (P : Program) {k : Nat} (cx : Cx k) (ops : Array Oper) (K : St → Prop) (f : Nat) (listed : List Bool) (st : St) : Prop :=
  ∀ (ρ : Ids) (w : World) (a : Act), RelB ρ w st a → (∀ id b, foot ρ st.objs id b → b < cx.w0.heap.size → cx.M0 b) → (∀ (id : Nat) l, cx.ρ0[id]? = some l → ρ[id]? = some l) → Same cx.M0 cx.w0 w →
    wpAnyH P .any ops (lift cx (ThenK K)) (Same (Own ρ st.objs) w) f listed.toArray a w
def ROp (P : Program) (o : Oper) (st : St) (av : AV) : Prop :=
  ∀ (_ : Zs) (ρ : Ids) (w : World) (a : Act), RelB ρ w st a → ∃ v, Gm ρ w (Ban ρ st.objs) av v ∧ ∀ w1, Same (Own ρ st.objs) w w1 → (execOp a.eval o).run P w1 = .ok (.value v) w1
theorem POp.r {o : Oper} {av : AV} (h : POp P o st av) : ROp P o st av := fun zs ρ w a hb => by
  obtain ⟨v, h1, h2⟩ := h zs ρ w a hb
  exact ⟨v, h1, fun w1 _ => h2 w1⟩
theorem r_first [Zs] {f : Nat} {listed : List Bool} (i : Nat) {d : Tmp} {op : Op} {ty : TypeId} {pos : String} {af : Array Edge} {av : AV} (hi : ops[i]? = some ⟨some d, op, ty, pos, af, none⟩)
    (hb : (Region.noSelect ops && Region.free .any ops listed.toArray i && (Region.ready .any ops listed.toArray).contains i) = true)
    (hq : ROp P ⟨some d, op, ty, pos, af, none⟩ st av) (hd : Nat.blt d st.n = true) (h : rL P cx ops K f (listed.set i true) (st.put d av)) : rL P cx ops K (f + 1) listed st := by
  simp only [Bool.and_eq_true] at hb
  obtain ⟨⟨b1, b2⟩, b3⟩ := hb
  intro ρ w a hr hf h0 hs
  obtain ⟨v, hg, hv⟩ := hq _ ρ w a hr
  have e : listed.toArray.setIfInBounds i true = (listed.set i true).toArray := by simp
  refine wpAnyH_take hi b1 b2 b3 (fun c a w hp => ?_) (v := v) (.inl ⟨by simp [Region.wanted], hv⟩) (Same.refl _ _) ?_
  · obtain ⟨st', h1, _⟩ := hp
    exact h1.elim
  · rw [e]
    exact h ρ w _ (hr.put hd hg) hf h0 hs
theorem r_frame [Zs] {f : Nat} {listed : List Bool} (h : ∀ (cx1 : Cx st.objs.length) (S : World → Prop), xH P cx1 ops K S f listed st) : rL P cx ops K f listed st := by
  intro ρ w a hr hf h0 hs
  have hg := hr.good
  let cx1 : Cx st.objs.length := ⟨w, Own ρ st.objs, ρ, hg.len⟩
  have hrel : Rel cx1 st a w := ⟨⟨ρ, hr, fun id b hb _ => ⟨id, hb⟩, fun _ _ h => h⟩, Same.refl _ w⟩
  refine anyH_q ?_ ?_ _ _ _ _ (h cx1 (Same (Own ρ st.objs) w) (fun w1 h1 => h1) a w hrel)
  · rintro a' w' ⟨st', hK, hr'⟩
    obtain ⟨ρ', hb', hf', h0'⟩ := hr'.base
    have hsm : Same (Own ρ st.objs) w w' := hr'.same
    refine ⟨st', hK, ⟨ρ', hb', fun id b hb hlt => ?_, fun id l hl => h0' _ _ (h0 id l hl)⟩, hs.trans hsm fun x hx ⟨id, hfo⟩ => hf id x hfo hx⟩
    obtain ⟨id2, h2⟩ := hf' id b hb (Nat.lt_of_lt_of_le hlt hs.size)
    exact hf id2 b h2 hlt
  · intro e he
    funext a' w'
    apply propext
    constructor
    · rintro ⟨st', h1, _⟩
      cases e <;> first | exact absurd rfl he | exact h1.elim
    · rintro ⟨st', h1, _⟩
      cases e <;> first | exact absurd rfl he | exact h1.elim
theorem a_holdR [Zs] {id : Nat} {l : List Oper} {n : Nat} {Q : Exit → St → Prop} (hm : P.follows .mixedOrders = true) (hn : l.length = n) (h : rL P cx l.toArray K n (List.replicate n false) st) : aC P cx (.region id l.toArray true) (thenA K Q) st := by
  subst hn
  refine a_mono (Q := ThenK K) ?_ fun e st h => by cases e <;> first | exact h | exact h.elim
  intro a w hr
  have hr2 := hr.mono (w' := { w with drawn := w.drawn + 1 }) ⟨rfl, rfl, rfl, Nat.le_refl _, fun _ _ => rfl⟩
  obtain ⟨ρ, hb, hf, h0⟩ := hr2.base
  refine wp_region_held (S := Same (Own ρ st.objs) { w with drawn := w.drawn + 1 }) hm ?_
  have := h ρ _ a hb hf h0 hr2.same
  simpa using this
/-! Laws. -/
variable {ty : TypeId} {pos : String} {af : Array Edge} {d : Option Tmp} {g : Option (Nat × Bool)} {T : TypeId} {x : Operand}
theorem R_move {av : AV} (hx : st.ev x = av) : ROp P ⟨d, .move x, ty, pos, af, g⟩ st av := POp.r (P_move hx)
theorem P_fieldAddrR {f off : Nat} {cs : List Dat} {o : Nat} (hx : st.ev x = .rpt cs o) (ht : FlT P T f off) : POp P ⟨d, .fieldAddr T x f, ty, pos, af, g⟩ st (.rpt cs (o + off)) := fun _ ρ w a hr => by
  have h := hr.ev x
  rw [hx] at h
  obtain ⟨ad, us, he, hsp, hM, hc, hd⟩ := h.rpt_inv
  have e : (ad.add o).add off = ad.add (o + off) := add_add' ad _ _
  refine ⟨.pointer (some (ad.add (o + off))), .rpt ad cs (o + off) us hsp hM hc hd, fun w1 => ?_⟩
  simp [execOp, he, run_fieldAt ht, e]
theorem R_fieldAddr_rpt {f off : Nat} {cs : List Dat} {o : Nat} (hx : st.ev x = .rpt cs o) (ht : FlT P T f off) : ROp P ⟨d, .fieldAddr T x f, ty, pos, af, g⟩ st (.rpt cs (o + off)) := POp.r (P_fieldAddrR hx ht)
theorem same_cell {ρ : Ids} {w w1 : World} {objs : List AO} [Zs] {ad : Addr} {j : Nat} {v : Value} (hM : ¬ Ban ρ objs ad.block) (hc : w.cell? (ad.add j) = some v) (hs : Same (Own ρ objs) w w1) : w1.cell? (ad.add j) = some v :=
  hs.cell hc fun h => hM (.inl (by rwa [show (ad.add j).block = ad.block by unfold Addr.add; split <;> rfl] at h))
theorem R_ld_rv {cs : List Dat} {o : Nat} {v : Value} (hx : st.ev x = .rpt cs o) (hc : cs[o]? = some (.val v)) (ht : ScT P T) : ROp P ⟨d, .load T x, ty, pos, af, g⟩ st (.val v) := fun zs ρ w a hr => by
  have h := hr.ev x
  rw [hx] at h
  obtain ⟨ad, us, he, hsp, hM, hcl, hd⟩ := h.rpt_inv
  have hu : us o = v := (show ∀ u, Rd w (Ban ρ st.objs) u (.val v) → u = v from fun u h => by cases h; rfl) _ (hd o _ hc)
  refine ⟨v, .val _, fun w1 hw => ?_⟩
  have := same_cell (hM o (List.getElem?_eq_some_iff.1 hc).1) (hcl o _ hc) hw
  rw [hu] at this
  simp [execOp, he, Instr.loadAt, Instr.sureAddr, run_loadSc ht _ this]
theorem R_ld_rpa {cs : List Dat} {n : Nat} {out : List AV} (hx : st.ev x = .rpt cs 0) (ht : AgT P T n) (hn : Nat.beq cs.length n = true) (ho : cs.map ofD = out) : ROp P ⟨d, .load T x, ty, pos, af, g⟩ st (.agg out) := fun zs ρ w a hr => by
  subst ho
  have hn := Nat.eq_of_beq_eq_true hn
  have h := hr.ev x
  rw [hx] at h
  obtain ⟨ad, us, he, hsp, hM, hcl, hd⟩ := h.rpt_inv
  refine ⟨.agg ((List.range n).map us).toArray, .agg _ _ (by simp [hn]) fun i av v h1 h2 => ?_, fun w1 hw => ?_⟩
  · simp only [List.getElem?_map, Option.map_eq_some_iff] at h1
    obtain ⟨dt, h3, rfl⟩ := h1
    have hi : i < n := by rw [← hn]; exact (List.getElem?_eq_some_iff.1 h3).1
    simp [hi] at h2
    subst h2
    exact gm_ofD (hd _ dt h3)
  · have := run_loadAgg (P := P) (w := w1) ht (ad.add 0) ((List.range n).map us) (by simp) fun j v hv => by
      simp only [List.getElem?_map, Option.map_eq_some_iff] at hv
      obtain ⟨j', h3, rfl⟩ := hv
      have hj : j < n := by simpa using (List.getElem?_eq_some_iff.1 h3).1
      obtain rfl : j = j' := by simpa [hj] using h3
      have e : (ad.add 0).add j = ad.add j := by rw [add_add', Nat.zero_add]
      rw [e]
      exact same_cell (hM j (by omega)) (hcl j _ (List.getElem?_eq_getElem (by omega))) hw
    simp [execOp, he, Instr.loadAt, Instr.sureAddr, this]
end
section
variable {P : Program} {k : Nat} {cx : Cx k} {ops : Array Oper} {K : St → Prop} {S : World → Prop} {ty : TypeId} {pos : String} {af : Array Edge} {d nn f : Nat} {vars : List (Nat × AV)} {objs objs' : List AO} {listed : List Bool}
theorem rw_first [Zs] (i : Nat) {op : Op} {av : AV} (hi : ops[i]? = some ⟨some d, op, ty, pos, af, none⟩) (hb : (Region.noSelect ops && Region.free .any ops listed.toArray i && (Region.ready .any ops listed.toArray).contains i) = true)
    (hq : ROp P ⟨some d, op, ty, pos, af, none⟩ ⟨nn, vars, objs⟩ av) (hd : Nat.blt d nn = true) (h : rL P cx ops K f (listed.set i true) ⟨nn, (d, av) :: vars, objs⟩) : rL P cx ops K (f + 1) listed ⟨nn, vars, objs⟩ := r_first i hi hb hq hd h
theorem rw_frame [Zs] (h : ∀ (cx1 : Cx objs.length) (S : World → Prop), xH P cx1 ops K S f listed ⟨nn, vars, objs⟩) : rL P cx ops K f listed ⟨nn, vars, objs⟩ := r_frame h
end
/-! copy(key[:], s): key an array variable of whole numbers, s read. -/
def pad (cur ns : List Nat) : List Nat := ns ++ cur.drop ns.length
def natV (l : List Nat) : List AV := l.map fun (v : Nat) => AV.val (.int .i64 v)
end Go.Proofs.YtbgecpjlopdkfaaDoor
