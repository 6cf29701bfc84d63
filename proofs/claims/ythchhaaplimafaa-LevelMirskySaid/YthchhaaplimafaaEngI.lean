/- Literals of structs and arrays; function values; fields of struct values; slices' parts. -/
import Derived.Test.YthchhaaplimafaaEngH
set_option linter.unusedSimpArgs false
set_option linter.unusedVariables false
namespace Go.Proofs.Ythchhaaplimafaa
open Go.RowKit

/-- How a struct or an array is laid out of its parts: its nought, and each part's place. -/
def BdT (P : Program) (T : TypeId) (zs : List Value) (place : Nat → Option (Nat × Nat)) : Prop :=
  ∀ (w : World) (parts : Array (Nat × Value)) (cells : Array Value), Instr.fill place zs.toArray parts.toList = some cells → (Instr.build T parts).run P w = .ok (.agg cells) w

theorem run_places {P : Program} {w : World} : ∀ (fs : List Field) (szs : List Nat), (fs.map fun f => (P.info? f.type).map (·.size)) = szs.map some →
    (fs.mapM (m := Sem) fun f => do pure (f.offset, ← sizeOf f.type)).run P w = .ok ((fs.map (·.offset)).zip szs) w
  | [], szs, h => by cases szs with | nil => rfl | cons => simp at h
  | f :: fs, [], h => by simp at h
  | f :: fs, s :: szs, h => by
    simp only [List.map_cons, List.cons.injEq] at h
    have h1 : SzOf P f.type s := h.1
    have ih := run_places (P := P) (w := w) fs szs h.2
    simp only [List.mapM_cons, Sem.run_bind, h1.run, Result.andThen_ok, Sem.run_pure, ih]
    rfl

theorem BdT.struct {P : Program} {T : TypeId} {fs : Array Field} {z : Value} {zs : List Value} {szs : List Nat} {n by' : Nat} (hu : P.underlying T = some (.struct fs)) (hz : MkT P T z n by') (hzs : z.cells = zs.toArray)
    (hs : (fs.toList.map fun f => (P.info? f.type).map (·.size)) = szs.map some) : BdT P T zs (fun i => ((fs.toList.map (·.offset)).zip szs)[i]?) := by
  intro w parts cells hf
  obtain ⟨i, hi, hz1, _⟩ := hz.info
  have hpl := run_places (P := P) (w := w) fs.toList szs hs
  have hpl' : (fs.mapM (m := Sem) fun f => do pure (f.offset, ← sizeOf f.type)).run P w = .ok ((fs.toList.map (·.offset)).zip szs).toArray w := by
    rw [← Array.toArray_toList (xs := fs), List.mapM_toArray, Sem.run_map]
    simp only [hpl, Result.andThen_ok]
  simp only [Instr.build, Sem.run_bind, zeroValue, typeInfo, run_program, hi, hz1, Result.andThen_ok, Sem.run_pure, run_underlying hu, hpl', hzs]
  have hfun : (fun i : Nat => (((fs.toList.map (·.offset)).zip szs).toArray)[i]?) = (fun i : Nat => ((fs.toList.map (·.offset)).zip szs)[i]?) := by funext i; simp
  rw [hfun, hf]
  rfl

theorem BdT.array {P : Program} {T e : TypeId} {z : Value} {zs : List Value} {sz n m by' : Nat} (ht : ArT P T m e sz) (hz : MkT P T z n by') (hzs : z.cells = zs.toArray) : BdT P T zs (fun i => some (i * sz, sz)) := by
  intro w parts cells hf
  obtain ⟨i, hi, hz1, _⟩ := hz.info
  simp only [Instr.build, Sem.run_bind, zeroValue, typeInfo, run_program, hi, hz1, Result.andThen_ok, Sem.run_pure, run_underlying ht.1, ht.2.run, hzs, hf]

/-- The parts, laid one by one into what is there. -/
def PartA (st : St) (place : Nat → Option (Nat × Nat)) : List (Nat × Operand) → List AV → List AV → Prop
  | [], cur, out => out = cur
  | (i, x) :: r, cur, out => ∃ off l, place i = some (off, l.length) ∧ (st.ev x).cells = l ∧ l.all AV.one = true ∧ Nat.ble (off + l.length) cur.length = true ∧ PartA st place r (cur.take off ++ l ++ cur.drop (off + l.length)) out

section
variable {P : Program} {st : St} {d : Option Tmp} {ty : TypeId} {pos : String} {af : Array Edge} {g : Option (Nat × Bool)}

theorem partA_spec [Zs] {ρ : Ids} {w : World} {a : Act} (hb : RelB ρ w st a) (place : Nat → Option (Nat × Nat)) : ∀ (ps : List (Nat × Operand)) (cur out : List AV) (vs : Array Value), PartA st place ps cur out → cur.length = vs.size →
    (∀ (i : Nat) (av : AV) (v : Value), cur[i]? = some av → vs[i]? = some v → Gm ρ w (Ban ρ st.objs) av v) →
    ∃ vs', Instr.fill place vs (ps.map fun p => (p.1, a.eval p.2)) = some vs' ∧ out.length = vs'.size ∧ ∀ (i : Nat) (av : AV) (v : Value), out[i]? = some av → vs'[i]? = some v → Gm ρ w (Ban ρ st.objs) av v
  | [], cur, out, vs, h, hl, hg => by
    have : out = cur := h
    subst this
    exact ⟨vs, by simp [Instr.fill], hl, hg⟩
  | (i, x) :: r, cur, out, vs, h, hl, hg => by
    obtain ⟨off, l, h1, h2, h3', h4, h5⟩ := h
    have h3 := List.all_eq_true.1 h3'
    obtain ⟨g1, g2, _⟩ := gm_cells (hb.ev x) h2 h3
    have h4' : off + l.length ≤ cur.length := Nat.le_of_ble_eq_true h4
    have hfill := run_fill place vs i (a.eval x) (r.map fun p => (p.1, a.eval p.2)) off (by rw [g1]; exact h1) (by rw [g1]; omega)
    have ih := partA_spec hb place r _ out (vs.toList.take off ++ (a.eval x).cells.toList ++ vs.toList.drop (off + (a.eval x).cells.size)).toArray h5 (by simp [g1]; omega) (by
      intro j av v hj hv
      have hc : (cur.take off).length = off := by simp; omega
      have ha : (vs.toList.take off).length = off := by simp; omega
      have hx : (a.eval x).cells.toList.length = l.length := by simpa using g1
      rw [List.append_assoc] at hj
      simp only [List.getElem?_toArray] at hv
      rw [List.append_assoc (List.take off vs.toList)] at hv
      rw [List.getElem?_append, hc] at hj
      rw [List.getElem?_append, ha] at hv
      by_cases h5 : j < off
      · rw [if_pos h5, List.getElem?_take, if_pos h5] at hj hv
        exact hg j av v hj (by simpa using hv)
      · rw [if_neg h5] at hj hv
        rw [List.getElem?_append] at hj hv
        rw [hx] at hv
        by_cases h6 : j - off < l.length
        · rw [if_pos h6] at hj hv
          exact g2 _ av v hj (by simpa using hv)
        · rw [if_neg h6, List.getElem?_drop] at hj hv
          rw [g1] at hv
          exact hg _ av v hj (by simpa using hv))
    obtain ⟨vs', i1, i2, i3⟩ := ih
    refine ⟨vs', ?_, i2, i3⟩
    simp only [List.map_cons]
    rw [hfill]
    exact i1

theorem Q_build {T : TypeId} {zs : List Value} {place : Nat → Option (Nat × Nat)} {parts : Array (Nat × Operand)} {ps : List (Nat × Operand)} {out : List AV} (hb : BdT P T zs place) (hp : parts = ps.toArray) (hcs : PartA st place ps (zs.map .val) out) :
    QOp P ⟨d, .build T parts, ty, pos, af, g⟩ st (.agg out) :=
  .run fun ρ w a hr => by
    subst hp
    obtain ⟨vs', h1, h2, h3⟩ := partA_spec hr place ps (zs.map .val) out zs.toArray hcs (by simp) (by
      intro i av v hi hv
      simp only [List.getElem?_map, List.getElem?_toArray] at hi hv
      rw [hv] at hi
      obtain rfl := Option.some.inj hi
      exact .val v)
    refine ⟨.agg vs', .agg _ _ h2 h3, fun w1 _ => ?_⟩
    have hmap : ∀ f : Nat × Operand → Nat × Value, (∀ p, f p = (p.1, a.eval p.2)) → (ps.toArray.map f).toList = ps.map fun p => (p.1, a.eval p.2) := by
      intro f hf
      rw [show f = fun p => (p.1, a.eval p.2) from funext hf]
      simp
    simp only [execOp, Sem.run_bind, hb w1 _ vs' (by rw [hmap _ (fun _ => rfl)]; exact h1), Result.andThen_ok, Sem.run_pure]

/-- A function value that has captured something. -/
theorem Q_clo {f : FuncId} {xs : Array Operand} : QOp P ⟨d, .makeFunc (.func f) #[] xs, ty, pos, af, g⟩ st (.clo f (evs st xs)) :=
  .run fun ρ w a hr => by
    refine ⟨.func (.func f) #[] (xs.map a.eval), .clo f _ _ (by simp [evs]) fun i av v h1 h2 => ?_, fun w1 _ => by simp [execOp, Instr.makeFunc]⟩
    simp only [evs, List.getElem?_map, Array.getElem?_toList, Option.map_eq_some_iff] at h1
    obtain ⟨x, hx, rfl⟩ := h1
    simp only [Array.getElem?_map, hx, Option.map_some, Option.some.injEq] at h2
    subst h2
    exact hr.ev x
/-- A function value that has captured nothing. -/
theorem Q_fun {f : FuncId} : QOp P ⟨d, .makeFunc (.func f) #[] #[], ty, pos, af, g⟩ st (.val (.func (.func f) #[] #[])) :=
  .run fun ρ w a hr => ⟨_, .val _, fun w1 _ => by simp [execOp, Instr.makeFunc]⟩

/-- A field of one cell of a struct value. -/
theorem Q_field {T : TypeId} {x : Operand} {i : Nat} {fs : Array Field} {fd : Field} {l : List AV} {av : AV} (hx : st.ev x = .agg l) (hu : P.underlying T = some (.struct fs)) (hf : fs[i]? = some fd) (ht : ScT P fd.type) (hl : l[fd.offset]? = some av) :
    QOp P ⟨d, .field T x i, ty, pos, af, g⟩ st av :=
  .run fun ρ w a hr => by
    have hg := hr.ev x
    rw [hx] at hg
    obtain ⟨vs, he, h1, h2⟩ := hg.agg_inv
    have hlt : fd.offset < vs.size := by rw [← h1]; exact (List.getElem?_eq_some_iff.1 hl).1
    refine ⟨vs[fd.offset], h2 _ av _ hl (Array.getElem?_eq_getElem hlt), fun w1 _ => ?_⟩
    simp [execOp, he, Instr.field, run_underlying hu, hf, asAgg, part, ht.run, hlt]

/-- An element of an array value. -/
theorem Q_index_v {T e : TypeId} {x ix : Operand} {n : Nat} {l : List AV} {av : AV} {i : Int} (hx : st.ev x = .agg l) (hi : st.ev ix = .val (.int .i64 i)) (ht : ArT P T n e 1) (hs : ScT P e) (h : 0 ≤ i ∧ i < n) (hl : l[i.toNat]? = some av) :
    QOp P ⟨d, .index T x ix, ty, pos, af, g⟩ st av :=
  .run fun ρ w a hr => by
    have hg := hr.ev x
    rw [hx] at hg
    obtain ⟨vs, he, h1, h2⟩ := hg.agg_inv
    have hlt : i.toNat < vs.size := by rw [← h1]; exact (List.getElem?_eq_some_iff.1 hl).1
    refine ⟨vs[i.toNat], h2 _ av _ hl (Array.getElem?_eq_getElem hlt), fun w1 _ => ?_⟩
    simp [execOp, he, hr.evv hi, Instr.index, asIntOf, run_underlying ht.1, ht.2.run, h.1, h.2, part, hs.run, hlt]

/-- From one integer type to another. -/
theorem Q_conv {S T : TypeId} {x : Operand} {k k' ku : IntKind} {n : Int} (hx : st.ev x = .val (.int k n)) (hs : P.underlying S = some (.int ku)) (ht : P.underlying T = some (.int k')) (hw : k'.wrap n = n) :
    QOp P ⟨d, .convert S T x, ty, pos, af, g⟩ st (.val (.int k' n)) :=
  .run fun ρ w a hr => ⟨_, .val _, fun w1 _ => by
    simp only [execOp, Go.convert, Sem.run_bind, run_underlying hs, run_underlying ht, Result.andThen_ok, hr.evv hx, Conv.intToInt, hw, Sem.run_pure]⟩
end
end Go.Proofs.Ythchhaaplimafaa
