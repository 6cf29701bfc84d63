import Derived.Test.YtdbngpkbamhbeaaEngZp
import Derived.WideKeyArr
import Derived.StringKeys
set_option linter.unusedSimpArgs false
set_option linter.unusedVariables false
set_option linter.unusedSectionVars false
namespace Go.Proofs.Ytdbngpkbamhbeaa
open Go.RowKit Go.MapKept Go.WideMaps
section
variable {κ : Type} [DecidableEq κ]
def gget : List (κ × Int) → κ → Option Int
  | [], _ => none
  | p :: r, k => if p.1 = k then some p.2 else gget r k
def gput : List (κ × Int) → κ → Int → List (κ × Int)
  | [], k, v => [(k, v)]
  | p :: r, k, v => if p.1 = k then (k, v) :: r else p :: gput r k v
theorem gget_mem : ∀ {l : List (κ × Int)} {k : κ} {v : Int}, gget l k = some v → (k, v) ∈ l
  | [], k, v, h => by cases h
  | p :: r, k, v, h => by
    unfold gget at h
    by_cases e : p.1 = k
    · rw [if_pos e] at h
      obtain rfl := Option.some.inj h
      subst e
      exact .head _
    · rw [if_neg e] at h
      exact .tail _ (gget_mem h)
theorem gget_none : ∀ {l : List (κ × Int)} {k : κ}, gget l k = none ↔ ∀ p ∈ l, p.1 ≠ k
  | [], k => by simp [gget]
  | p :: r, k => by
    unfold gget
    by_cases e : p.1 = k
    · rw [if_pos e]
      constructor
      · intro h; cases h
      · intro h; exact absurd e (h p (.head _))
    · rw [if_neg e, gget_none]
      constructor
      · intro h q hq
        rcases List.mem_cons.1 hq with rfl | hq
        · exact e
        · exact h q hq
      · exact fun h q hq => h q (.tail _ hq)
theorem gput_none : ∀ {l : List (κ × Int)} {k : κ} (v : Int), gget l k = none → gput l k v = l ++ [(k, v)]
  | [], k, v, h => rfl
  | p :: r, k, v, h => by
    unfold gget at h
    unfold gput
    by_cases e : p.1 = k
    · rw [if_pos e] at h; cases h
    · rw [if_neg e] at h ⊢
      rw [gput_none v h]; rfl
theorem gget_at : ∀ {l : List (κ × Int)} {j : Nat} {k : κ} {v : Int}, (l.map (·.1)).Nodup → l[j]? = some (k, v) → gget l k = some v ∧ ∀ u, gput l k u = l.set j (k, u)
  | [], j, k, v, _, h => by simp at h
  | p :: r, 0, k, v, _, h => by
    simp only [List.getElem?_cons_zero, Option.some.injEq] at h
    subst h
    exact ⟨by simp [gget], fun u => by simp [gput]⟩
  | p :: r, j + 1, k, v, hn, h => by
    rw [List.map_cons, List.nodup_cons] at hn
    simp only [List.getElem?_cons_succ] at h
    obtain ⟨h1, h2⟩ := gget_at hn.2 h
    have e : p.1 ≠ k := fun e => hn.1 (by rw [e]; exact List.mem_map.2 ⟨(k, v), gget_mem h1, rfl⟩)
    refine ⟨by unfold gget; rw [if_neg e, h1], fun u => ?_⟩
    unfold gput
    rw [if_neg e, h2 u]; rfl
/-- The entries, as the machine holds them. -/
def gmi (ke : κ → Value) (l : List (κ × Int)) : List (Value × Value) := l.map fun p => (ke p.1, .int .i64 p.2)
/-- A type of maps from such keys to numbers. -/
structure KeyE (P : Program) (t : TypeId) (ke : κ → Value) (ok : κ → Prop) : Prop where
  ex : ∃ kt et, P.underlying t = some (.map kt et) ∧ MkT P et (.int .i64 0) 1 8 ∧ KeyLaw P kt ∧ (∀ k, ok k → ∃ l, keyOf P kt (ke k) = some l) ∧ (∀ a b, ok a → ok b → ke a = ke b → a = b)
variable {P : Program} {ke : κ → Value} {ok : κ → Prop}
theorem gmi_at {es : Array MapEntry} {l : List (κ × Int)} (h : es.toList.map (fun e => (e.key, e.val)) = gmi ke l) {j : Nat} {e : MapEntry} (hj : es.toList[j]? = some e) : ∃ k v, l[j]? = some (k, v) ∧ e.key = ke k ∧ e.val = .int .i64 v := by
  have h2 : (es.toList.map (fun e => (e.key, e.val)))[j]? = (gmi ke l)[j]? := by rw [h]
  rw [gmi, List.getElem?_map, List.getElem?_map, hj, Option.map_some] at h2
  obtain ⟨p, h3, h4⟩ := Option.map_eq_some_iff.1 h2.symm
  simp only [Prod.mk.injEq] at h4
  exact ⟨p.1, p.2, h3, h4.1.symm, h4.2.symm⟩
theorem gmi_size {es : Array MapEntry} {l : List (κ × Int)} (h : es.toList.map (fun e => (e.key, e.val)) = gmi ke l) : es.size = l.length := by
  have := congrArg List.length h
  simpa [gmi] using this
/-- Where a key is, by the machine and by the list. -/
theorem g_find {kt : TypeId} (K : KeyLaw P kt) (hk : ∀ k, ok k → ∃ l, keyOf P kt (ke k) = some l) (hi : ∀ a b, ok a → ok b → ke a = ke b → a = b) {es : Array MapEntry} {l : List (κ × Int)} (hm : es.toList.map (fun e => (e.key, e.val)) = gmi ke l)
    (hn : (l.map (·.1)).Nodup) (hok : ∀ p ∈ l, ok p.1) {k : κ} (ho : ok k) (w : World) :
    ((Instr.findKey kt (ke k) es.toList).run P w = .ok none w ∧ gget l k = none) ∨
    ∃ j v e, (Instr.findKey kt (ke k) es.toList).run P w = .ok (some (j, .int .i64 v)) w ∧ es[j]? = some e ∧ e.key = ke k ∧ l[j]? = some (k, v) ∧ gget l k = some v := by
  obtain ⟨lx, hlx⟩ := hk k ho
  rcases K.find w hlx es.toList (fun e he => by
    obtain ⟨j, hj, rfl⟩ := List.getElem_of_mem he
    obtain ⟨k', v', h1, h2, _⟩ := gmi_at hm (List.getElem?_eq_getElem hj)
    obtain ⟨l', hl'⟩ := hk k' (hok _ (List.mem_of_getElem? h1))
    exact ⟨l', by rw [h2]; exact hl'⟩) with ⟨h1, h2⟩ | ⟨j, e, h1, h2, h3⟩
  · refine .inl ⟨h1, gget_none.2 fun p hp hpk => ?_⟩
    obtain ⟨j, hj, rfl⟩ := List.getElem_of_mem hp
    have hje : j < es.toList.length := by
      have := gmi_size hm
      simpa [this] using hj
    obtain ⟨k', v', h4, h5, _⟩ := gmi_at hm (List.getElem?_eq_getElem hje)
    rw [List.getElem?_eq_getElem hj] at h4
    have h6 := Option.some.inj h4
    rw [h6] at hpk
    subst hpk
    exact h2 _ (List.getElem_mem hje) h5
  · obtain ⟨k', v', h4, h5, h6⟩ := gmi_at hm h2
    rw [h3] at h5
    obtain rfl := hi _ _ ho (hok _ (List.mem_of_getElem? h4)) h5
    refine .inr ⟨j, v', e, by rw [← h6]; exact h1, by simpa using h2, h3, h4, (gget_at hn h4).1⟩
theorem run_glookup {w : World} {t : TypeId} (ht : KeyE P t ke ok) {b : Nat} {es : Array MapEntry} {c : Nat} {l : List (κ × Int)} (hb : w.heap[b]? = some (.map es c)) (hm : es.toList.map (fun e => (e.key, e.val)) = gmi ke l)
    (hn : (l.map (·.1)).Nodup) (hok : ∀ p ∈ l, ok p.1) {k : κ} (ho : ok k) (cm : Bool) :
    (Instr.lookup t (.map (some b)) (ke k) cm).run P w = .ok (if cm then .tuple #[.int .i64 ((gget l k).getD 0), .bool (gget l k).isSome] else .int .i64 ((gget l k).getD 0)) w := by
  obtain ⟨kt, et, h1, h2, K, h4, h5⟩ := ht.ex
  obtain ⟨lx, hlx⟩ := h4 k ho
  rcases g_find K h4 h5 hm hn hok ho w with ⟨h6, h7⟩ | ⟨j, v, e, h6, h7, h8, h9, h10⟩
  · rw [h7]
    simp only [Instr.lookup, Sem.run_bind, run_underlying h1, Result.andThen_ok, Go.MapKept.run_getObj_map hb, Sem.run_pure, K.check w _ hlx, h6, run_zero h2]
    cases cm <;> rfl
  · rw [h10]
    simp only [Instr.lookup, Sem.run_bind, run_underlying h1, Result.andThen_ok, Go.MapKept.run_getObj_map hb, Sem.run_pure, K.check w _ hlx, h6]
    cases cm <;> rfl
theorem gmi_set (l : List (κ × Int)) (j : Nat) (k : κ) (v : Int) : gmi ke (l.set j (k, v)) = (gmi ke l).set j (ke k, .int .i64 v) := by simp [gmi, List.map_set]
theorem mod_gmi {es : Array MapEntry} {l : List (κ × Int)} (hm : es.toList.map (fun e => (e.key, e.val)) = gmi ke l) {j : Nat} {f : MapEntry → MapEntry} {k : κ} {v : Int} (hf : ∀ e, es[j]? = some e → (f e).key = ke k ∧ (f e).val = .int .i64 v) :
    (es.modify j f).toList.map (fun e => (e.key, e.val)) = gmi ke (l.set j (k, v)) := by
  rw [gmi_set, ← hm]
  refine List.ext_getElem? fun i => ?_
  rw [List.getElem?_map, Array.getElem?_toList, Array.getElem?_modify, List.getElem?_set, List.length_map]
  by_cases e : j = i
  · subst e
    rw [if_pos rfl, if_pos rfl]
    cases he : es[j]? with
    | none =>
      have := Array.getElem?_eq_none_iff.1 he
      rw [if_neg (by simp; omega)]; rfl
    | some x =>
      have := (Array.getElem?_eq_some_iff.1 he).1
      rw [if_pos (by simp; omega)]
      simp [(hf x he).1, (hf x he).2]
  · rw [if_neg e, if_neg e, List.getElem?_map, Array.getElem?_toList]
theorem run_gput {w : World} {t : TypeId} (ht : KeyE P t ke ok) {b : Nat} {es : Array MapEntry} {l : List (κ × Int)} (hb : w.heap[b]? = some (.map es es.size)) (hbo : ∀ (i : Nat) (e : MapEntry), es[i]? = some e → e.born = i)
    (hm : es.toList.map (fun e => (e.key, e.val)) = gmi ke l) (hn : (l.map (·.1)).Nodup) (hok : ∀ p ∈ l, ok p.1) {k : κ} (ho : ok k) (v : Int) :
    ∃ es', (Instr.mapUpdate t (.map (some b)) (ke k) (.int .i64 v)).run P w = .ok () { w with heap := w.heap.setIfInBounds b (.map es' es'.size) } ∧ (∀ (i : Nat) (e : MapEntry), es'[i]? = some e → e.born = i) ∧ es'.toList.map (fun e => (e.key, e.val)) = gmi ke (gput l k v) := by
  obtain ⟨kt, et, h1, h2, K, h4, h5⟩ := ht.ex
  obtain ⟨lx, hlx⟩ := h4 k ho
  rcases g_find K h4 h5 hm hn hok ho w with ⟨h6, h7⟩ | ⟨j, u, e, h6, h7, h8, h9, h10⟩
  · refine ⟨es.push { key := ke k, val := .int .i64 v, born := es.size }, ?_, push_born hbo, by rw [gput_none v h7]; simp [gmi, hm]⟩
    rw [Array.size_push]
    simp only [Instr.mapUpdate, Sem.run_bind, run_underlying h1, Result.andThen_ok, Go.MapKept.run_getObj_map hb, K.check w _ hlx, h6, Go.MapKept.run_setObj_map _ hb]
  · refine ⟨es.modify j fun e => { e with key := ke k, val := .int .i64 v }, ?_, mod_born hbo fun _ => rfl, by rw [(gget_at hn h9).2 v]; exact mod_gmi hm fun e _ => ⟨rfl, rfl⟩⟩
    simp only [Instr.mapUpdate, Sem.run_bind, run_underlying h1, Result.andThen_ok, Go.MapKept.run_getObj_map hb, K.check w _ hlx, h6, h7, h8, Option.map_some, Option.getD_some, K.stays w hlx, Go.MapKept.run_setObj_map _ hb, Array.size_modify]
end
section
variable {κ : Type} [DecidableEq κ] {ke : κ → Value} {ok : κ → Prop} {P : Program} {st : St} {d : Option Tmp} {ty : TypeId} {pos : String} {af : Array Edge} {g : Option (Nat × Bool)}
/-- Values that an operand stands for, told as cells. -/
def valA (l : List Value) : AV := .agg (l.map .val)
theorem Q_glookup {x y : Operand} {T : TypeId} {id : Nat} {l : List (κ × Int)} {k : κ} (hke : KeyE P T ke ok) (hx : st.ev x = .own id) (ho : st.objs[id]? = some (.mp (gmi ke l))) {av : AV} (hy : st.ev y = av) (hav : ∀ (ρ : Ids) (w : World) (M : Nat → Prop) (u : Value), Gm ρ w M av u → u = ke k)
    (hn : (l.map (·.1)).Nodup) (hok : ∀ p ∈ l, ok p.1) (hk : ok k) :
    QOp P ⟨d, .lookup T x y true, ty, pos, af, g⟩ st (.tup [.val (.int .i64 ((gget l k).getD 0)), .val (.bool (gget l k).isSome)]) :=
  .run fun ρ w a hr => by
    have h := hr.ev x
    rw [hx] at h
    have h2 := hav _ _ _ _ (hy ▸ hr.ev y)
    obtain ⟨b, es, he, hρ, hh, _, hm⟩ := map_cells hr.good ho h
    refine ⟨.tuple #[.int .i64 ((gget l k).getD 0), .bool (gget l k).isSome], .tup _ _ rfl fun i av v h1 h2 => ?_, fun w1 hw => ?_⟩
    · match i with
      | 0 => simp at h1 h2; subst h1; subst h2; exact .val _
      | 1 => simp at h1 h2; subst h1; subst h2; exact .val _
      | i + 2 => simp at h1
    have hh1 : w1.heap[b]? = some (.map es es.size) := by rw [hw.block b (Array.getElem?_eq_some_iff.1 hh).1]; exact hh
    have := run_glookup hke hh1 hm hn hok hk true
    simp only [execOp, he, h2, Sem.run_bind, this, Result.andThen_ok, Sem.run_pure]
    rfl
theorem Q_glookupS {x y : Operand} {T : TypeId} {id : Nat} {l : List (κ × Int)} {k : κ} {v : Int} (hke : KeyE P T ke ok) (hq : gget l k = some v) (hx : st.ev x = .own id) (ho : st.objs[id]? = some (.mp (gmi ke l))) {av : AV} (hy : st.ev y = av) (hav : ∀ (ρ : Ids) (w : World) (M : Nat → Prop) (u : Value), Gm ρ w M av u → u = ke k)
    (hn : (l.map (·.1)).Nodup) (hok : ∀ p ∈ l, ok p.1) (hk : ok k) : QOp P ⟨d, .lookup T x y true, ty, pos, af, g⟩ st (.tup [.val (.int .i64 v), .val (.bool true)]) := by
  have := Q_glookup (d := d) (ty := ty) (pos := pos) (af := af) (g := g) hke hx ho hy hav hn hok hk
  rw [hq] at this
  exact this
theorem Q_glookupN {x y : Operand} {T : TypeId} {id : Nat} {l : List (κ × Int)} {k : κ} (hke : KeyE P T ke ok) (hq : gget l k = none) (hx : st.ev x = .own id) (ho : st.objs[id]? = some (.mp (gmi ke l))) {av : AV} (hy : st.ev y = av) (hav : ∀ (ρ : Ids) (w : World) (M : Nat → Prop) (u : Value), Gm ρ w M av u → u = ke k)
    (hn : (l.map (·.1)).Nodup) (hok : ∀ p ∈ l, ok p.1) (hk : ok k) : QOp P ⟨d, .lookup T x y true, ty, pos, af, g⟩ st (.tup [.val (.int .i64 0), .val (.bool false)]) := by
  have := Q_glookup (d := d) (ty := ty) (pos := pos) (af := af) (g := g) hke hx ho hy hav hn hok hk
  rw [hq] at this
  exact this
end
section
variable {κ : Type} [DecidableEq κ] {ke : κ → Value} {ok : κ → Prop} {P : Program} {k : Nat} {cx : Cx k} {ops : Array Oper} {Q : Exit → St → Prop} {rest : List Oper} {ty : TypeId} {pos : String} {af : Array Edge} {n m : Nat} {vars : List (Nat × AV)} {objs objs' : List AO} {d : Nat}
theorem w_gput [Zs] {x y z : Operand} {T : TypeId} {id : Nat} {l : List (κ × Int)} {q : κ} {v : Int} (hke : KeyE P T ke ok) (hx : (⟨n, vars, objs⟩ : St).ev x = .own id) (hob : objs[id]? = some (.mp (gmi ke l))) {av : AV} (hy : (⟨n, vars, objs⟩ : St).ev y = av) (hav : ∀ (ρ : Ids) (w : World) (M : Nat → Prop) (u : Value), Gm ρ w M av u → u = ke q)
    (hz : (⟨n, vars, objs⟩ : St).ev z = .val (.int .i64 v)) (hn : (l.map (·.1)).Nodup) (hok : ∀ p ∈ l, ok p.1) (hq : ok q)
    (ho : objs.set id (.mp (gmi ke (gput l q v))) = objs') (hk : aL P cx ops Q rest ⟨n, vars, objs'⟩) : aL P cx ops Q (⟨none, .mapUpdate T x y z, ty, pos, af, none⟩ :: rest) ⟨n, vars, objs⟩ := by
  subst ho
  refine l_skip (st2 := (⟨n, vars, objs⟩ : St).set id (.mp (gmi ke (gput l q v)))) rfl ?_ rfl hk
  intro ρ w a hb
  have hg := hb.ev x
  rw [hx] at hg
  have h2 := hav _ _ _ _ (hy ▸ hb.ev y)
  obtain ⟨b, es, he, hρ, hh, hbo, hm⟩ := map_cells hb.good hob hg
  obtain ⟨es', h1, h3, h4⟩ := run_gput hke hh hbo hm hn hok hq v
  rw [he] at hρ
  obtain ⟨g1, g2, g3⟩ := map_turn hb.good hob hρ hh h3 h4
  refine ⟨_, ρ, ?_, g3, fun _ _ h => h, fun b' _ h => g2 b' h, g1⟩
  simp only [execOp, he, h2, hb.evv hz, Sem.run_bind, h1, Result.andThen_ok, Sem.run_pure]
theorem w_makeGmap [Zs] {T : TypeId} (ho : objs ++ [.mp []] = objs') (hm : objs.length = m) (hd : Nat.blt d n = true) (hk : aL P cx ops Q rest ⟨n, (d, .own m) :: vars, objs'⟩) : aL P cx ops Q (⟨some d, .makeMap T none, ty, pos, af, none⟩ :: rest) ⟨n, vars, objs⟩ := by
  subst ho; subst hm; exact l_makeMap hd hk
end
/-- Keys that are arrays of whole numbers. -/
def arrK (l : List Nat) : Value := .agg (l.map fun (v : Nat) => Value.int .i64 v).toArray
structure ArrK (P : Program) (t : TypeId) (n : Nat) : Prop where
  ex : ∃ kt et e, P.underlying t = some (.map kt et) ∧ MkT P et (.int .i64 0) 1 8 ∧ ArrKey P kt e n ∧ P.underlying e = some (.int .i64)
  sz : ∃ m, P.types.size = m + 1
end Go.Proofs.Ytdbngpkbamhbeaa
