/- The kinds of what laws are handed; a law that is walked to 'true' is what is said of it. -/
import Derived.Test.YthchhaaplimafaaEngR
set_option linter.unusedSimpArgs false
set_option linter.unusedVariables false
namespace Go.Proofs.Ythchhaaplimafaa
open Go.ChangeShapes Go.WideShapes Go.RowKit

section
variable {H : Type} {enc : TypeId × Value → H} {P : Program} {w : World} {base : Nat} {spare : Nat → Bool} {held : Bool} {t e a : TypeId} {r : Reach} {b0 : Nat} {v : Value} {d : DataW H} {ps : List MemPlace}

theorem ok_slice (ht : P.underlying t = some (.slice e)) (h : Value.okWide P w r b0 t v) : v.cells = #[v] := by
  simp only [Value.okWide, ht, Cell.okWide] at h
  cases v <;> simp_all [Cell.ok, Value.cells]

theorem arg_int (ht : P.underlying t = some (.int .i64)) (hval : Value.okWide P w r b0 t v) (hd : DataW.Trod enc P w base spare held t v d ps) : ∃ n, v = .int .i64 n ∧ I64 n := by
  obtain ⟨n, rfl⟩ := okWide_int ht hval
  obtain ⟨fuel, hf⟩ := hd
  obtain ⟨m, h1, h2⟩ := rd_int ht hf
  simp [Value.cells] at h1
  exact ⟨n, rfl, h1 ▸ h2⟩
theorem arg_ints (ht : P.underlying t = some (.slice e)) (he : P.underlying e = some (.int .i64)) (hc : P.cellsOf e = 1) (hval : Value.okWide P w r b0 t v) (hd : DataW.Trod enc P w base spare held t v d ps) :
    ∃ l, Rd w noM v (.sl 1 (intc l)) ∧ (∀ x ∈ l, I64 x) ∧ l.length ≤ big := by
  obtain ⟨fuel, hf⟩ := hd
  obtain ⟨u, l, h1, h2, h3, h4⟩ := rd_ints ht he hc hf
  rw [ok_slice ht hval] at h1
  simp at h1
  exact ⟨l, h1 ▸ h2, h3, h4⟩
theorem arg_pairs (ht : P.underlying t = some (.slice e)) (he : P.underlying e = some (.array 2 a)) (ha : P.underlying a = some (.int .i64)) (hc : P.cellsOf e = 2) (hca : P.cellsOf a = 1) (hval : Value.okWide P w r b0 t v) (hd : DataW.Trod enc P w base spare held t v d ps) :
    ∃ l, Rd w noM v (.sl 2 (pairc l)) ∧ (∀ x ∈ l, I64 x.1 ∧ I64 x.2) ∧ l.length ≤ big := by
  obtain ⟨fuel, hf⟩ := hd
  obtain ⟨u, l, h1, h2, h3, h4⟩ := rd_pairs ht he ha hc hca hf
  rw [ok_slice ht hval] at h1
  simp at h1
  exact ⟨l, h1 ▸ h2, h3, h4⟩
theorem arg_rows (ht : P.underlying t = some (.slice e)) (he : P.underlying e = some (.slice a)) (ha : P.underlying a = some (.int .i64)) (hc : P.cellsOf e = 1) (hca : P.cellsOf a = 1) (hval : Value.okWide P w r b0 t v) (hd : DataW.Trod enc P w base spare held t v d ps) :
    ∃ m, Rd w noM v (.sl 1 (rowc m)) ∧ (∀ r ∈ m, (∀ x ∈ r, I64 x) ∧ r.length ≤ big) ∧ m.length ≤ big := by
  obtain ⟨fuel, hf⟩ := hd
  obtain ⟨u, l, h1, h2, h3, h4⟩ := rd_rows ht he ha hc hca hf
  rw [ok_slice ht hval] at h1
  simp at h1
  exact ⟨l, h1 ▸ h2, h3, h4⟩
/-- A struct of a number and a slice of numbers. -/
theorem arg_order {f0 f1 : Field} (ht : P.underlying t = some (.struct #[f0, f1])) (hC : P.cellsOf t = 2) (o0 : f0.offset = 0) (o1 : f1.offset = 1) (h0 : P.underlying f0.type = some (.int .i64)) (c0 : P.cellsOf f0.type = 1)
    (h1 : P.underlying f1.type = some (.slice e)) (c1 : P.cellsOf f1.type = 1) (he : P.underlying e = some (.int .i64)) (hc : P.cellsOf e = 1) (hval : Value.okWide P w r b0 t v) (hd : DataW.Trod enc P w base spare held t v d ps) :
    ∃ N l u, v = .agg #[.int .i64 N, u] ∧ Rd w noM u (.sl 1 (intc l)) ∧ I64 N ∧ (∀ x ∈ l, I64 x) ∧ l.length ≤ big := by
  obtain ⟨cs, rfl, hsz⟩ := okWide_struct ht hval
  obtain ⟨fuel, hf⟩ := hd
  obtain ⟨l⟩ := cs
  match l, hsz.trans hC with
  | [a0, a1], _ =>
    obtain ⟨xs, n, _, _, _, hlen, hg⟩ := DataW.trod_struct ht hf
    match xs, hlen with
    | [x0, x1], _ =>
      have g0 := hg 0 f0 rfl
      have g1 := hg 1 f1 rfl
      simp [Value.cells, o0, o1, c0, c1] at g0 g1
      obtain ⟨N, e0, b0⟩ := rd_int h0 g0
      obtain ⟨u, l, e1, b1, b2, b3⟩ := rd_ints h1 he hc g1
      simp at e0 e1
      subst e0; subst e1
      exact ⟨N, l, a1, rfl, b1, b0, b2, b3⟩
end

theorem gm_ints {w : World} {v : Value} {l : List Int} (h : Rd w noM v (.sl 1 (intc l))) : Gm [] w (Ban [] []) (ints l) v := .ro _ _ (rd_own h)
theorem gm_pairs {w : World} {v : Value} {l : List (Int × Int)} (h : Rd w noM v (.sl 2 (pairc l))) : Gm [] w (Ban [] []) (pairs l) v := .ro _ _ (rd_own h)
theorem gm_rows {w : World} {v : Value} {l : List (List Int)} (h : Rd w noM v (.sl 1 (rowc l))) : Gm [] w (Ban [] []) (rows l) v := .ro _ _ (rd_own h)
theorem gm_order {w : World} {u : Value} {N : Int} {l : List Int} (h : Rd w noM u (.sl 1 (intc l))) : Gm [] w (Ban [] []) (.agg [.val (.int .i64 N), ints l]) (.agg #[.int .i64 N, u]) :=
  .agg _ _ rfl fun i av v h1 h2 => by
    match i with
    | 0 => simp at h1 h2; subst h1; subst h2; exact .val _
    | 1 => simp at h1 h2; subst h1; subst h2; exact gm_ints h
    | i + 2 => simp at h1

def GmL (w : World) : List AV → List Value → Prop
  | [], [] => True
  | av :: l, v :: r => Gm [] w (Ban [] []) av v ∧ GmL w l r
  | _, _ => False
theorem gmL_spec {w : World} : ∀ {l : List AV} {r : List Value}, GmL w l r → r.length = l.length ∧ ∀ (i : Nat) (av : AV) (v : Value), l[i]? = some av → r[i]? = some v → Gm [] w (Ban [] []) av v
  | [], [], _ => ⟨rfl, fun i av v h => by simp at h⟩
  | av :: l, v :: r, h => by
    obtain ⟨h1, h2⟩ := gmL_spec h.2
    refine ⟨by simp [h1], fun i av' v' ha hv => ?_⟩
    cases i with
    | zero => simp at ha hv; subst ha; subst hv; exact h.1
    | succ i => exact h2 i av' v' (by simpa using ha) (by simpa using hv)

section
variable {H : Type} {enc : TypeId × Value → H}
theorem trodAll_below {P : Program} (hl : laidOutB P = true) {W W' : World} (hb : Below W.heap.size W W') : ∀ {ts : List TypeId} {vs : List Value} {ds : List (DataW H)} {ps : List MemPlace},
    (∀ t ∈ ts, P.readableRec t = true ∧ t < P.types.size) → DataW.TrodAll enc P W 0 (fun _ => true) true ts vs ds ps → (∀ x ∈ ps, x.block < W.heap.size) → DataW.TrodAll enc P W' 0 (fun b => decide (b < W.heap.size)) true ts vs ds ps
  | [], [], [], _, _, h, _ => h
  | t :: ts, v :: vs, d :: ds, _, hts, ⟨p, q, h1, h2, h3⟩, hlt => by
    subst h3
    exact ⟨p, q, Below.trod hl (hts t (by simp)).1 (hts t (by simp)).2 h1 hb (fun x hx => hlt x (by simp [hx])), trodAll_below hl hb (fun t ht => hts t (List.mem_cons_of_mem _ ht)) h2 (fun x hx => hlt x (by simp [hx])), rfl⟩

theorem trodAll_len {P : Program} {w : World} {base : Nat} {spare : Nat → Bool} {held : Bool} : ∀ {ts : List TypeId} {vs : List Value} {ds : List (DataW H)} {ps : List MemPlace}, DataW.TrodAll enc P w base spare held ts vs ds ps → ds.length = ts.length
  | [], [], [], _, _ => rfl
  | t :: ts, v :: vs, d :: ds, _, ⟨_, _, _, h2, _⟩ => by simp [trodAll_len h2]

theorem good_nil (w : World) : Good [] w [] := ⟨rfl, fun id o h => by simp at h, fun i j b h => (by obtain ⟨o, l, ho, _⟩ := h; simp at ho), fun i b h => (by obtain ⟨o, l, ho, _⟩ := h; simp at ho), fun _ h => h.elim⟩

theorem law_frame {C : Checked} {os : Os} {f : FuncId} {fn : Func} {s : ChangeSpec} {conds : List PathCond} {B : TypeId}
    (own : ownKnob C.prog.godebug = none) (started : os.Started) (noInit : C.prog.inits.idxOf? f = none) (hfn : C.prog.funcs[f]? = some fn)
    (witness : ∃ (w : World) (tape : Tape) (i : Input), w.os = os ∧ (w.forCall tape i).Shaped C.prog ∧ i.vars = [] ∧ Input.okWide C.prog (w.forCall tape i) .any w.heap.size f i ∧
      s.pre6 enc C.prog fn conds false (w.forCall tape i).memory i.args ∧ ({} : Assume).holds C.prog (lone (Frame.enter C.prog f i.args .normal) [] (w.forCall tape i)))
    (hl : laidOutB C.prog = true) (hres : fn.resultTypes = #[B]) (hB : C.prog.underlying B = some .bool)
    (hts : (fn.params.toList.all fun t => C.prog.readableRec t && decide (t < C.prog.types.size)) = true) (hvars : s.vars = [])
    (hfnS : ∀ ds : List (DataW H), ds.length = fn.params.toList.length → s.fn H ds = ⟨[.lit (.bool true)], ds, []⟩)
    (calls : ∀ (W : World) (base : Nat) (args : Array Value) (ds : List (DataW H)) (p : List MemPlace), (∀ (j : Nat) t v, fn.params[j]? = some t → args[j]? = some v → Value.okWide C.prog W .any base t v) →
      DataW.TrodAll enc C.prog W 0 (fun _ => true) true fn.params.toList args.toList ds p → ∃ avs, GmL W avs args.toList ∧ AC C.prog f avs [] (.val (.bool true)) []) :
    ReturnsInHanded {} C os f .any (s.pre6 enc C.prog fn conds false) (s.post enc C.prog fn false true false false) := by
  refine returnsInHanded_of_change own started noInit hfn witness ?_
  intro W base args ds gs before hval hW _ _
  have hW' := hW
  obtain ⟨p, q, hA, hV, rfl, hfz, hnd⟩ := hW
  rw [hvars] at hV
  obtain ⟨rfl, rfl⟩ := trodVars_none hV
  obtain ⟨avs, h1, h3⟩ := calls W base args ds p hval hA
  obtain ⟨g1, g2⟩ := gmL_spec h1
  refine (h3.2 [] W args (good_nil W) (by simpa using g1) (fun i av v ha hv => g2 i av v ha (by simpa using hv))).mono ?_
  rintro e W' ⟨v, ρ', rfl, hs, _, hg, _, _⟩
  have hb := hs.below (fun x _ h => noM_own h)
  have hts' : ∀ t ∈ fn.params.toList, C.prog.readableRec t = true ∧ t < C.prog.types.size := fun t ht => by
    have := List.all_eq_true.1 hts t ht
    simpa using this
  rw [hg.val_inv]
  have hS := hfnS (ds ++ []) (by rw [List.append_nil]; exact trodAll_len hA)
  refine ⟨_, rfl, ds, [], p ++ [], [], p, [], hW', ?_, ?_, ?_, hb.frame _, fun h => by cases h⟩
  · rw [hS, hres]
    exact ⟨[], [], ⟨1, by simp [DataW.trod, hB, Value.cells]⟩, rfl, rfl⟩
  · rw [hS, List.append_nil]
    exact trodAll_below hl hb hts' hA (fun x hx => by simpa using hW'.lt x (by simpa using hx))
  · rw [hS, hvars]
    rfl
end
end Go.Proofs.Ythchhaaplimafaa
