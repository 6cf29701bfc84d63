import Derived.Test.YtdbngpkbamhbeaaEngA
import Derived.MapKept
set_option linter.unusedSimpArgs false
set_option linter.unusedVariables false
set_option linter.unusedSectionVars false
namespace Go.Proofs.Ytdbngpkbamhbeaa
open Go.RowKit Go.MapKept
/-! Maps, plain: the entries one behind the other. -/
def mi (l : List (Int × Int)) : List (Value × Value) := l.map fun p => (.int .i64 p.1, .int .i64 p.2)
def mget : List (Int × Int) → Int → Option Int
  | [], _ => none
  | p :: r, k => if p.1 = k then some p.2 else mget r k
def midx : List (Int × Int) → Int → Nat
  | [], _ => 0
  | p :: r, k => if p.1 = k then 0 else midx r k + 1
def mput : List (Int × Int) → Int → Int → List (Int × Int)
  | [], k, v => [(k, v)]
  | p :: r, k, v => if p.1 = k then (k, v) :: r else p :: mput r k v
def mgd (l : List (Int × Int)) (k : Int) : Int := (mget l k).getD 0
theorem midx_lt : ∀ {l : List (Int × Int)} {k v : Int}, mget l k = some v → midx l k < l.length ∧ l[midx l k]? = some (k, v)
  | [], k, v, h => by cases h
  | p :: r, k, v, h => by
    unfold mget at h
    unfold midx
    by_cases e : p.1 = k
    · rw [if_pos e] at h ⊢
      obtain rfl := Option.some.inj h
      subst e
      exact ⟨by simp, by simp⟩
    · rw [if_neg e] at h ⊢
      have := midx_lt h
      exact ⟨by simpa using this.1, by simpa using this.2⟩
theorem mput_some : ∀ {l : List (Int × Int)} {k u : Int} (v : Int), mget l k = some u → mput l k v = l.set (midx l k) (k, v)
  | [], k, u, v, h => by cases h
  | p :: r, k, u, v, h => by
    unfold mget at h
    unfold mput midx
    by_cases e : p.1 = k
    · rw [if_pos e, if_pos e]; rfl
    · rw [if_neg e] at h
      rw [if_neg e, if_neg e, mput_some v h]; rfl
theorem mput_none : ∀ {l : List (Int × Int)} {k : Int} (v : Int), mget l k = none → mput l k v = l ++ [(k, v)]
  | [], k, v, h => rfl
  | p :: r, k, v, h => by
    unfold mget at h
    unfold mput
    by_cases e : p.1 = k
    · rw [if_pos e] at h; cases h
    · rw [if_neg e] at h ⊢
      rw [mput_none v h]; rfl
/-- Every key is there just once. -/
def Mk (l : List (Int × Int)) : Prop := (l.map (·.1)).Nodup
/-! The machine's words. -/
theorem findNow_mi {k : Int} : ∀ (es : List MapEntry) (l : List (Int × Int)) (i : Nat), es.map (fun e => (e.key, e.val)) = mi l →
    Instr.findNow (.int .i64) (.int .i64 k) es i = some ((mget l k).map fun v => (i + midx l k, .int .i64 v))
  | [], [], i, _ => rfl
  | [], p :: r, i, h => by simp [mi] at h
  | e :: es, [], i, h => by simp [mi] at h
  | e :: es, p :: r, i, h => by
    simp only [mi, List.map_cons, List.cons.injEq, Prod.mk.injEq] at h
    obtain ⟨⟨h1, h2⟩, h3⟩ := h
    have ih := findNow_mi (k := k) es r (i + 1) h3
    unfold Instr.findNow
    rw [h1, h2]
    by_cases e : p.1 = k
    · have : (k == p.1) = true := by simp [e]
      simp [Instr.sameNow, this, mget, midx, e]
    · have : (k == p.1) = false := by simp [Ne.symm e]
      simp only [Instr.sameNow, if_true, this, ih, mget, midx, if_neg e]
      congr 1
      cases mget r k <;> simp <;> omega
/-- A type of maps from numbers to numbers. -/
def MpT (P : Program) (t : TypeId) : Prop := ∃ kt et, P.underlying t = some (.map kt et) ∧ P.underlying kt = some (.int .i64) ∧ MkT P et (.int .i64 0) 1 8
class KMp (P : Program) (t : TypeId) : Prop where h : MpT P t
theorem mget_at {es : Array MapEntry} {l : List (Int × Int)} (h : es.toList.map (fun e => (e.key, e.val)) = mi l) {j : Nat} {k v : Int} (hj : l[j]? = some (k, v)) : ∃ e, es[j]? = some e ∧ e.key = .int .i64 k ∧ e.val = .int .i64 v := by
  have h2 : (es.toList.map (fun e => (e.key, e.val)))[j]? = (mi l)[j]? := by rw [h]
  rw [mi, List.getElem?_map, List.getElem?_map, hj, Array.getElem?_toList, Option.map_some] at h2
  obtain ⟨e, h3, h4⟩ := Option.map_eq_some_iff.1 h2
  simp only [Prod.mk.injEq] at h4
  exact ⟨e, h3, h4.1, h4.2⟩
theorem es_size {es : Array MapEntry} {l : List (Int × Int)} (h : es.toList.map (fun e => (e.key, e.val)) = mi l) : es.size = l.length := by
  have := congrArg List.length h
  simpa [mi] using this
theorem run_zero {P : Program} {et : TypeId} {z : Value} {sz by' : Nat} (h : MkT P et z sz by') (w : World) : (zeroValue et).run P w = .ok z w := by
  obtain ⟨i, hi, hz⟩ := h.info
  simp [zeroValue, typeInfo, hi, hz.1]
/-- An own map, in the world. -/
theorem map_cells [Zs] {ρ : Ids} {w : World} {objs : List AO} (hg : Good ρ w objs) {id : Nat} {m : List (Value × Value)} {u : Value} (ho : objs[id]? = some (.mp m)) (hu : Gm ρ w (Ban ρ objs) (.own id) u) :
    ∃ b es, u = .map (some b) ∧ ρ[id]? = some [u] ∧ w.heap[b]? = some (.map es es.size) ∧ (∀ (i : Nat) (e : MapEntry), es[i]? = some e → e.born = i) ∧ es.toList.map (fun e => (e.key, e.val)) = m := by
  obtain ⟨v, us, h1, rfl, b, es, rfl, h2, h3, h4⟩ := hg.sat id _ ho
  obtain ⟨l, hl⟩ := hu.own_inv
  rw [h1] at hl
  obtain ⟨rfl, rfl⟩ := List.cons.inj (Option.some.inj hl)
  exact ⟨b, es, rfl, h1, h2, h3, h4⟩
theorem run_lookup {P : Program} {w : World} {t : TypeId} (ht : MpT P t) {b : Nat} {es : Array MapEntry} {c : Nat} {l : List (Int × Int)} (hb : w.heap[b]? = some (.map es c)) (hm : es.toList.map (fun e => (e.key, e.val)) = mi l) (k : Int) (ok : Bool) :
    (Instr.lookup t (.map (some b)) (.int .i64 k) ok).run P w = .ok (if ok then .tuple #[.int .i64 (mgd l k), .bool (mget l k).isSome] else .int .i64 (mgd l k)) w := by
  obtain ⟨kt, et, h1, h2, h3⟩ := ht
  have hk : IsKey (.int .i64) (.int .i64 k) := rfl
  have hf := findNow_mi (k := k) es.toList l 0 hm
  unfold mgd
  cases hg : mget l k with
  | none =>
    rw [hg] at hf
    simp only [Instr.lookup, Sem.run_bind, run_underlying h1, Result.andThen_ok, Go.MapKept.run_getObj_map hb, Sem.run_pure, Go.MapKept.run_checkKey h2 hk, Go.MapKept.run_findKey h2 hf, Option.map_none, run_zero h3]
    cases ok <;> rfl
  | some v =>
    rw [hg] at hf
    simp only [Instr.lookup, Sem.run_bind, run_underlying h1, Result.andThen_ok, Go.MapKept.run_getObj_map hb, Sem.run_pure, Go.MapKept.run_checkKey h2 hk, Go.MapKept.run_findKey h2 hf, Option.map_some]
    cases ok <;> rfl
section
variable {P : Program} {st : St} {d : Option Tmp} {ty : TypeId} {pos : String} {af : Array Edge} {g : Option (Nat × Bool)}
theorem Q_lookupOk {x y : Operand} {T : TypeId} {id : Nat} {l : List (Int × Int)} {k : Int} (hx : st.ev x = .own id) (ho : st.objs[id]? = some (.mp (mi l))) (hy : st.ev y = .val (.int .i64 k)) (ht : MpT P T) :
    QOp P ⟨d, .lookup T x y true, ty, pos, af, g⟩ st (.tup [.val (.int .i64 (mgd l k)), .val (.bool (mget l k).isSome)]) :=
  .run fun ρ w a hr => by
    have h := hr.ev x
    rw [hx] at h
    obtain ⟨b, es, he, hρ, hh, _, hm⟩ := map_cells hr.good ho h
    refine ⟨.tuple #[.int .i64 (mgd l k), .bool (mget l k).isSome], .tup _ _ rfl fun i av v h1 h2 => ?_, fun w1 hw => ?_⟩
    · match i with
      | 0 => simp at h1 h2; subst h1; subst h2; exact .val _
      | 1 => simp at h1 h2; subst h1; subst h2; exact .val _
      | i + 2 => simp at h1
    have hh1 : w1.heap[b]? = some (.map es es.size) := by rw [hw.block b (Array.getElem?_eq_some_iff.1 hh).1]; exact hh
    have := run_lookup (P := P) ht hh1 hm k true
    simp only [execOp, he, hr.evv hy, Sem.run_bind, this, Result.andThen_ok, Sem.run_pure]
    rfl
theorem Q_len_map {x : Operand} {T : TypeId} {id : Nat} {l : List (Int × Int)} {cl : Callee} {ats : Array TypeId} (hcl : cl = .builtin .len) (hx : st.ev x = .own id) (ho : st.objs[id]? = some (.mp (mi l))) (hats : ats = #[T]) (ht : MpT P T) :
    QOp P ⟨d, .call ⟨cl, #[x], ats⟩, ty, pos, af, g⟩ st (.val (.int .i64 (l.length : Int))) :=
  .run fun ρ w a hr => by
    subst hcl; subst hats
    have h := hr.ev x
    rw [hx] at h
    obtain ⟨b, es, he, hρ, hh, _, hm⟩ := map_cells hr.good ho h
    obtain ⟨kt, et, h1, h2, h3⟩ := ht
    refine ⟨_, .val _, fun w1 hw => ?_⟩
    have hh1 : w1.heap[b]? = some (.map es es.size) := by rw [hw.block b (Array.getElem?_eq_some_iff.1 hh).1]; exact hh
    rw [← es_size hm]
    simp [execOp, resolve, invoke, builtin, he, Builtin.len_, run_underlying h1, Go.MapKept.run_getObj_map hh1, goInt, Result.andThen]
end
theorem mi_set (l : List (Int × Int)) (j : Nat) (k v : Int) : mi (l.set j (k, v)) = (mi l).set j (.int .i64 k, .int .i64 v) := by simp [mi, List.map_set]
theorem mod_mi {es : Array MapEntry} {l : List (Int × Int)} (hm : es.toList.map (fun e => (e.key, e.val)) = mi l) {j : Nat} {f : MapEntry → MapEntry} {k v : Int} (hf : ∀ e, es[j]? = some e → (f e).key = .int .i64 k ∧ (f e).val = .int .i64 v) :
    (es.modify j f).toList.map (fun e => (e.key, e.val)) = mi (l.set j (k, v)) := by
  rw [mi_set, ← hm]
  refine List.ext_getElem? fun i => ?_
  rw [List.getElem?_map, Array.getElem?_toList, Array.getElem?_modify, List.getElem?_set, List.length_map]
  by_cases e : j = i
  · subst e
    rw [if_pos rfl, if_pos rfl]
    cases he : es[j]? with
    | none =>
      have := Array.getElem?_eq_none_iff.1 he
      rw [if_neg (by simp; omega)]; rfl
    | some x =>
      have := (Array.getElem?_eq_some_iff.1 he).1
      rw [if_pos (by simp; omega)]
      simp [(hf x he).1, (hf x he).2]
  · rw [if_neg e, if_neg e, List.getElem?_map, Array.getElem?_toList]
theorem mod_born {es : Array MapEntry} (h : ∀ (i : Nat) (e : MapEntry), es[i]? = some e → e.born = i) {j : Nat} {f : MapEntry → MapEntry} (hf : ∀ e, (f e).born = e.born) : ∀ (i : Nat) (e : MapEntry), (es.modify j f)[i]? = some e → e.born = i := by
  intro i e he
  rw [Array.getElem?_modify] at he
  split at he
  · obtain ⟨x, h1, rfl⟩ := Option.map_eq_some_iff.1 he
    rw [hf]; exact h i x h1
  · exact h i e he
theorem push_born {es : Array MapEntry} (h : ∀ (i : Nat) (e : MapEntry), es[i]? = some e → e.born = i) {k v : Value} : ∀ (i : Nat) (e : MapEntry), (es.push { key := k, val := v, born := es.size })[i]? = some e → e.born = i := by
  intro i e he
  rw [Array.getElem?_push] at he
  split at he
  · rename_i h1; cases he; exact h1.symm
  · exact h i e he
/-- What a store into a map does. -/
theorem run_mput {P : Program} {w : World} {t : TypeId} (ht : MpT P t) {b : Nat} {es : Array MapEntry} {l : List (Int × Int)} (hb : w.heap[b]? = some (.map es es.size)) (hbo : ∀ (i : Nat) (e : MapEntry), es[i]? = some e → e.born = i) (hm : es.toList.map (fun e => (e.key, e.val)) = mi l) (k v : Int) :
    ∃ es', (Instr.mapUpdate t (.map (some b)) (.int .i64 k) (.int .i64 v)).run P w = .ok () { w with heap := w.heap.setIfInBounds b (.map es' es'.size) } ∧ (∀ (i : Nat) (e : MapEntry), es'[i]? = some e → e.born = i) ∧ es'.toList.map (fun e => (e.key, e.val)) = mi (mput l k v) := by
  obtain ⟨kt, et, h1, h2, h3⟩ := ht
  have hk : IsKey (.int .i64) (.int .i64 k) := rfl
  have hf := findNow_mi (k := k) es.toList l 0 hm
  cases hg : mget l k with
  | none =>
    rw [hg] at hf
    refine ⟨es.push { key := .int .i64 k, val := .int .i64 v, born := es.size }, ?_, push_born hbo, by rw [mput_none v hg]; simp [mi, hm] ⟩
    rw [Array.size_push]
    simp only [Instr.mapUpdate, Sem.run_bind, run_underlying h1, Result.andThen_ok, Go.MapKept.run_getObj_map hb, Go.MapKept.run_checkKey h2 hk, Go.MapKept.run_findKey h2 hf, Option.map_none, Go.MapKept.run_setObj_map _ hb]
  | some u =>
    rw [hg] at hf
    obtain ⟨e, h4, h5, h6⟩ := mget_at hm (midx_lt hg).2
    refine ⟨es.modify (midx l k) fun e => { e with key := .int .i64 k, val := .int .i64 v }, ?_, mod_born hbo fun _ => rfl, by rw [mput_some v hg]; exact mod_mi hm fun e _ => ⟨rfl, rfl⟩⟩
    simp only [Instr.mapUpdate, Sem.run_bind, run_underlying h1, Result.andThen_ok, Go.MapKept.run_getObj_map hb, Go.MapKept.run_checkKey h2 hk, Go.MapKept.run_findKey h2 hf, Option.map_some, Nat.zero_add, h4, h5, Option.getD_some, Go.MapKept.run_keyThatStays hk, Go.MapKept.run_setObj_map _ hb, Array.size_modify]
section
variable {P : Program} {k : Nat} {cx : Cx k} {ops : Array Oper} {Q : Exit → St → Prop} {st : St} {rest : List Oper} {ty : TypeId} {pos : String} {af : Array Edge}
theorem map_turn [Zs] {ρ : Ids} {w : World} {objs : List AO} (hg : Good ρ w objs) {id b : Nat} {m m' : List (Value × Value)} {es es' : Array MapEntry} (ho : objs[id]? = some (.mp m)) (hρ : ρ[id]? = some [.map (some b)]) (hh : w.heap[b]? = some (.map es es.size))
    (hbo : ∀ (i : Nat) (e : MapEntry), es'[i]? = some e → e.born = i) (hm : es'.toList.map (fun e => (e.key, e.val)) = m') :
    Good ρ { w with heap := w.heap.setIfInBounds b (.map es' es'.size) } (objs.set id (.mp m')) ∧ (∀ b', Own ρ (objs.set id (.mp m')) b' → Own ρ objs b') ∧ Same (Own ρ objs) w { w with heap := w.heap.setIfInBounds b (.map es' es'.size) } :=
  hg.turn (o' := .mp m') ho rfl hρ (b := b) rfl ⟨rfl, rfl, rfl, by simp, fun k _ hn => (heap_set hh).2 k hn⟩ ⟨.map (some b), [], hρ, rfl, b, es', rfl, (heap_set hh).1, hbo, hm⟩
theorem l_mput [Zs] {x y z : Operand} {T : TypeId} {op : Op} {id : Nat} {l : List (Int × Int)} {i v : Int} (hop : op = .mapUpdate T x y z ∨ op = .insert T x y z) (hx : st.ev x = .own id) (ho : st.objs[id]? = some (.mp (mi l))) (hy : st.ev y = .val (.int .i64 i)) (hz : st.ev z = .val (.int .i64 v)) (ht : MpT P T)
    (hk : aL P cx ops Q rest (st.set id (.mp (mi (mput l i v))))) : aL P cx ops Q (⟨none, op, ty, pos, af, none⟩ :: rest) st := by
  refine l_skip (st2 := st.set id (.mp (mi (mput l i v)))) rfl ?_ rfl hk
  intro ρ w a hb
  have hg := hb.ev x
  rw [hx] at hg
  obtain ⟨b, es, he, hρ, hh, hbo, hm⟩ := map_cells hb.good ho hg
  obtain ⟨es', h1, h2, h3⟩ := run_mput (P := P) ht hh hbo hm i v
  rw [he] at hρ
  obtain ⟨g1, g2, g3⟩ := map_turn hb.good ho hρ hh h2 h3
  refine ⟨_, ρ, ?_, g3, fun _ _ h => h, fun b' _ h => g2 b' h, g1⟩
  rcases hop with rfl | rfl <;> simp only [execOp, he, hb.evv hy, hb.evv hz, Sem.run_bind, h1, Result.andThen_ok, Sem.run_pure]
theorem l_makeMap [Zs] {d : Tmp} {T : TypeId} (hd : Nat.blt d st.n = true) (hk : aL P cx ops Q rest ((st.add (.mp (mi []))).put d (.own st.objs.length))) : aL P cx ops Q (⟨some d, .makeMap T none, ty, pos, af, none⟩ :: rest) st := by
  refine l_step (st2 := st.add (.mp (mi []))) hd rfl ?_ rfl hk
  intro ρ w a hb
  have hbel : Below w.heap.size w (w.alloc (.map #[] 0)) := (Below.refl _ _).alloc (Nat.le_refl _) _
  have happ := app_one hb.good (o := .mp (mi [])) (v := .map (some w.heap.size)) hbel (fun b hb' => by cases hb'; exact Nat.le_refl _) fun hnew hM => ⟨_, [], hnew, rfl, w.heap.size, #[], rfl, heap_alloc_new w _, by simp, rfl⟩
  refine ⟨.map (some w.heap.size), _, _, ?_, happ.1, happ.2.1, happ.2.2.1, happ.2.2.2, .own _ _ [] (new_id hb.good.len _) rfl⟩
  simp [execOp, Instr.makeMap]
end
section
variable {P : Program} {k : Nat} {cx : Cx k} {ops : Array Oper} {Q : Exit → St → Prop} {rest : List Oper} {ty : TypeId} {pos : String} {af : Array Edge} {n m : Nat} {vars : List (Nat × AV)} {objs objs' : List AO} {d : Nat}
theorem w_mput [Zs] {x y z : Operand} {T : TypeId} {id : Nat} {l : List (Int × Int)} {i v : Int} (hx : (⟨n, vars, objs⟩ : St).ev x = .own id) (hob : objs[id]? = some (.mp (mi l))) (hy : (⟨n, vars, objs⟩ : St).ev y = .val (.int .i64 i)) (hz : (⟨n, vars, objs⟩ : St).ev z = .val (.int .i64 v)) (ht : MpT P T)
    (ho : objs.set id (.mp (mi (mput l i v))) = objs') (hk : aL P cx ops Q rest ⟨n, vars, objs'⟩) : aL P cx ops Q (⟨none, .mapUpdate T x y z, ty, pos, af, none⟩ :: rest) ⟨n, vars, objs⟩ := by subst ho; exact l_mput (.inl rfl) hx hob hy hz ht hk
theorem w_makeMap [Zs] {T : TypeId} (ho : objs ++ [.mp (mi [])] = objs') (hm : objs.length = m) (hd : Nat.blt d n = true) (hk : aL P cx ops Q rest ⟨n, (d, .own m) :: vars, objs'⟩) : aL P cx ops Q (⟨some d, .makeMap T none, ty, pos, af, none⟩ :: rest) ⟨n, vars, objs⟩ := by
  subst ho; subst hm; exact l_makeMap hd hk
end
end Go.Proofs.Ytdbngpkbamhbeaa
