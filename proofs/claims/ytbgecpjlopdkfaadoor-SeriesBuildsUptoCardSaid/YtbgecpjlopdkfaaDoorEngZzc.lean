import Derived.Test.YtbgecpjlopdkfaaDoorEngA
import Derived.Test.YtbgecpjlopdkfaaDoorEngZm
import Derived.Test.YtbgecpjlopdkfaaDoorEngZd
import Derived.Sort.Grow
import Derived.Laws.Slices
set_option linter.unusedSimpArgs false
set_option linter.unusedVariables false
set_option linter.unusedSectionVars false
namespace Go.Proofs.YtbgecpjlopdkfaaDoor
theorem AC.vw0 {P : Program} {f : FuncId} {args : List AV} {res res2 : AV} {objs' : List AO} (h : AC P f args [] res objs') (hv : Vw objs' [] res res2) : AC P f args [] res2 [] := by
  obtain ⟨h1, h2⟩ := h
  refine ⟨h1, ?_⟩
  intro _ ρ w vs hg hsz ha
  refine Calls.mono (h2 ρ w vs hg hsz ha) ?_
  rintro e w' ⟨v, ρ', he, hs, hg', hm, hid, hown⟩
  have hρ : ρ = [] := List.eq_nil_of_length_eq_zero (by have := hg.len; simpa using this)
  have ho : VwOs objs' [] [] := VwOs.mk (by decide) trivial
  refine ⟨v, [], he, hs, ?_, ?_, ?_, ?_⟩
  · have := hg'.view ho; exact this
  · have := hv.gm hg' ho v hm; exact this
  · intro id l hl; subst hρ; exact hl
  · rintro b ⟨id, o, l, h1, _⟩ _
    simp at h1
end Go.Proofs.YtbgecpjlopdkfaaDoor
set_option linter.unusedSimpArgs false
set_option linter.unusedVariables false
set_option linter.unusedSectionVars false
namespace Go.Proofs.YtbgecpjlopdkfaaDoor
open Go.RowKit
section
variable {P : Program} {st : St} {d : Option Tmp} {ty : TypeId} {pos : String} {af : Array Edge} {g : Option (Nat × Bool)} {T T' : TypeId} {x y ix : Operand}
theorem Q_ugeq {m n : Int} (hx : st.ev x = .val (.int .u64 m)) (hy : st.ev y = .val (.int .u64 n)) : QOp P ⟨d, .binOp .geq T x y T', ty, pos, af, g⟩ st (.val (.bool (decide (n ≤ m)))) := Q_bin hx hy fun _ => rfl
theorem Q_ixStr {s : ByteArray} {b : UInt8} {k : IntKind} {i : Nat} (hx : st.ev x = .val (.string s)) (hi : st.ev ix = .val (.int k (i : Int))) (hb : s[i]? = some b) (ht : P.underlying T = some .string) : QOp P ⟨d, .index T x ix, ty, pos, af, g⟩ st (.val (.int .u8 (b.toNat : Int))) :=
  .run fun ρ w a hr => ⟨_, .val _, fun w1 _ => by
    have h0 : (0 : Int) ≤ (i : Int) := by omega
    simp only [execOp, hr.evv hx, hr.evv hi, Instr.index, asIntOf, Sem.run_bind, Sem.run_pure, Result.andThen_ok, run_underlying ht]
    simp [h0, hb]⟩
end
end Go.Proofs.YtbgecpjlopdkfaaDoor
set_option linter.unusedSimpArgs false
set_option linter.unusedVariables false
set_option linter.unusedSectionVars false
namespace Go.Proofs.YtbgecpjlopdkfaaDoor
open Go.RowKit
/-- A row of numbers, written over as the shelf says it. -/
theorem put_turnG [Zs] {ρ : Ids} {w : World} {t : TypeId} {l r : List Int} {q b cap : Nat} {cur : Array Value} {os : Array Obj} (hg : Good ρ w [.row t 1 (intc l)]) (hρ : ρ[0]? = some [.slice (some ⟨b, 0, none⟩) l.length cap]) (hh : w.heap[b]? = some (.cells cur t (0, 0)))
    (hnc : l.length ≤ cap) (hcm : cap ≤ maxLen) (hcs : cur.size = cap) (hr : r.length = l.length) : ∃ w', w' = Go.Sort.grow (Go.Sort.putRow (Value.int .i64) (Go.Sort.ahead w q) b 0 r.toArray) os ∧
    Same (Own ρ [.row t 1 (intc l)]) w w' ∧ Good ρ w' [.row t 1 (intc r)] ∧ ∃ cur' : Array Value, w'.heap[b]? = some (.cells cur' t (0, 0)) ∧ cur'.size = cap ∧ cur'.toList.take l.length = r.map (Value.int .i64) := by
  refine ⟨_, rfl, ?_⟩
  generalize hw : Go.Sort.grow (Go.Sort.putRow (Value.int .i64) (Go.Sort.ahead w q) b 0 r.toArray) os = w'
  have hbl : b < w.heap.size := (Array.getElem?_eq_some_iff.1 hh).1
  have hheap : ∀ k, k < w.heap.size → w'.heap[k]? = if b = k then (w.heap[k]?).map (Go.Sort.onCells (Go.Sort.putCells (Value.int .i64) 0 r.toArray)) else w.heap[k]? := fun k hk => by
    rw [← hw, Go.Sort.heap_grow_old _ _ (by simpa [Go.Sort.putRow, Go.Sort.mapBlock, Go.Sort.ahead] using hk)]
    simp only [Go.Sort.putRow, Go.Sort.mapBlock, Go.Sort.ahead, Array.getElem?_modify]
  have hsz : w.heap.size ≤ w'.heap.size := by rw [← hw]; simp [Go.Sort.putRow, Go.Sort.mapBlock, Go.Sort.ahead]
  have hs : Same (fun x => x = b) w w' := ⟨by rw [← hw]; rfl, by rw [← hw]; rfl, by rw [← hw]; rfl, hsz, fun k hk hn => by rw [hheap k hk, if_neg fun h => hn h.symm]⟩
  obtain ⟨cur', hcur'⟩ : ∃ cur', cur' = Go.Sort.putCells (Value.int .i64) 0 r.toArray cur := ⟨_, rfl⟩
  have hb' : w'.heap[b]? = some (.cells cur' t (0, 0)) := by rw [hheap b hbl, if_pos rfl, hh, hcur']; rfl
  have hcs' : cur'.size = cap := by rw [hcur']; simp [Go.Sort.putCells, hcs]
  have htk : cur'.toList.take l.length = r.map (Value.int .i64) := by
    apply List.ext_getElem
    · simp [hcs', hr]; omega
    · intro i h1 h2
      simp at h1 h2
      simp only [List.getElem_take, Array.getElem_toList, List.getElem_map, hcur', Go.Sort.putCells, Array.getElem_mapIdx]
      rw [if_pos ⟨Nat.zero_le _, by simp; omega⟩]
      simp [h2]
  have key := hg.turn (o' := .row t 1 (intc r)) (id := 0) rfl rfl hρ (b := b) rfl hs (sat_row hρ (us := r.map (Value.int .i64)) ⟨by simp [hr], .inr ⟨b, cap, cur', rfl, Nat.zero_le _, hb', hnc, hcm, by simpa using hcs', by simpa using htk⟩⟩ (by simp [intc]) fun j dt hj => by
    simp only [intc, List.getElem?_map] at hj
    cases hx : r[j]? with
    | none => rw [hx] at hj; cases hj
    | some x =>
      rw [hx] at hj
      obtain rfl := Option.some.inj hj
      exact ⟨.int .i64 x, by rw [List.getElem?_map, hx]; rfl, .val _⟩)
  exact ⟨key.2.2, key.1, cur', hb', hcs', htk⟩
/-- What a row of numbers is. -/
theorem row_is [Zs] {ρ : Ids} {w : World} {t : TypeId} {l : List Int} (hg : Good ρ w [.row t 1 (intc l)]) {v : Value} (hv : Gm ρ w (Ban ρ [.row t 1 (intc l)]) (.own 0) v) : ρ[0]? = some [v] ∧ ((l = [] ∧ v = .slice none 0 0) ∨
    ∃ b cap cur, v = .slice (some ⟨b, 0, none⟩) l.length cap ∧ w.heap[b]? = some (.cells cur t (0, 0)) ∧ l.length ≤ cap ∧ cap ≤ maxLen ∧ cur.size = cap ∧ b < w.heap.size ∧ Go.Sort.Holds (Value.int .i64) w b 0 l.toArray) := by
  obtain ⟨v', n, us, h1, h2, h3, h4⟩ := hg.sat 0 _ rfl
  obtain ⟨lv, hl⟩ := hv.own_inv
  rw [h1] at hl
  obtain ⟨rfl, rfl⟩ := List.cons.inj (Option.some.inj hl)
  have hil : (intc l).length = l.length := by simp [intc]
  rw [hil] at h3
  have hul := h2.1
  refine ⟨h1, ?_⟩
  rcases h2.2 with ⟨rfl, hn⟩ | ⟨b, cap, cur, rfl, _, hh, hnc, hcm, hcs, htk⟩
  · exact .inl ⟨List.eq_nil_of_length_eq_zero (by omega), rfl⟩
  · have hn : n = l.length := by omega
    subst hn
    refine .inr ⟨b, cap, cur, rfl, hh, hnc, hcm, by simpa using hcs, (Array.getElem?_eq_some_iff.1 hh).1, fun j hj => ?_⟩
    have hj' : j < l.length := by simpa using hj
    have hd : (intc l)[j]? = some (.val (.int .i64 l[j])) := by simp [intc, hj']
    obtain ⟨u, hu, hr⟩ := h4 j _ hd
    have hux : u = .int .i64 l[j] := by cases hr; rfl
    subst hux
    have hc : cur[j]? = some (.int .i64 l[j]) := by
      rw [← htk, List.getElem?_take] at hu
      split at hu
      · rw [← Array.getElem?_toList]; exact hu
      · cases hu
    constructor
    · simp [World.cell?, hh, hc, hj']
    · simp [World.frozen?, hh]
end Go.Proofs.YtbgecpjlopdkfaaDoor
set_option linter.unusedSimpArgs false
set_option linter.unusedVariables false
set_option linter.unusedSectionVars false
namespace Go.Proofs.YtbgecpjlopdkfaaDoor
open Go.RowKit
section
variable {P : Program} {k : Nat} {cx : Cx k} {ops : Array Oper} {st : St} {K : St → Prop} {S : World → Prop}
theorem a_holdN [Zs] {id : Nat} {l : List Oper} {n : Nat} {Q : Exit → St → Prop} (hm : P.follows .mixedOrders = true) (hn : l.length = n) (h : xH P cx l.toArray (fun st => Q .normal st) (fun _ => True) n (List.replicate n false) st) : aC P cx (.region id l.toArray true) Q st :=
  a_mono (a_holdX (Q := Q) hm hn h) fun e st h => by cases e <;> exact h
end
theorem w_boxfnL [Zs] {P : Program} {k : Nat} {cx : Cx k} {ops : Array Oper} {Q : Exit → St → Prop} {rest : List Oper} {n : Nat} {vars : List (Nat × AV)} {objs objs' : List AO} (id o : Nat) {cells : List AV} {cl : AV} (ho : objs[id]? = some (.box cells)) (hc : cells[o]? = some cl) (hro : roA cl = true) (h1 : cl.one = true) (hob : objs.set id (.box (cells.set o (.ro (.fn (fnd cl))))) = objs')
    (hk : aL P cx ops Q rest ⟨n, vars, objs'⟩) : aL P cx ops Q rest ⟨n, vars, objs⟩ := by
  subst hob
  exact fun a w hr => hk a w (rel_boxfn (st := ⟨n, vars, objs⟩) id o ho hc hro h1 hr)
end Go.Proofs.YtbgecpjlopdkfaaDoor
