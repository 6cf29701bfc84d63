import Derived.Test.YtbgecpjlopdkfaaDoorSra
import Derived.Test.YtbgecpjlopdkfaaDoorEngR
import Derived.Test.YtbgecpjlopdkfaaDoorRows
import Derived.Deep.DeepHandedRow
set_option linter.unusedSimpArgs false
set_option linter.unusedVariables false
set_option linter.unusedSectionVars false
namespace Go.Proofs.YtbgecpjlopdkfaaDoor
open Go.ChangeShapes Go.WideShapes Go.RowKit Go.Deep
section
variable {H : Type} {enc : TypeId × Value → H} {P : Program} {w : World} {base : Nat} {spare : Nat → Bool} {held : Bool} {fuel : Nat} {cs : List Value} {x : DataW H × List MemPlace} {t e : TypeId}
theorem rd_sliceX {sz : Nat} (ht : P.underlying t = some (.slice e)) (hc : P.cellsOf e = sz) (R : List Dat → DataW H → Prop)
    (hR : ∀ n cs' y, n < fuel → DataW.trod enc P w base spare held n e cs' = some y → ∃ ds : List Dat, ds.length = cs'.length ∧ (∀ (j : Nat) v d, cs'[j]? = some v → ds[j]? = some d → Rd w noM v d) ∧ R ds y.1)
    (h : DataW.trod enc P w base spare held fuel t cs = some x) : ∃ (v : Value) (dss : List (List Dat)), cs = [v] ∧ Rd w noM v (.sl sz dss.flatten) ∧
      ((x.1 = .nil ∧ dss = []) ∨ ∃ es sp, x.1 = .slice es sp ∧ dss.length = es.length ∧ ∀ (i : Nat) ds d, dss[i]? = some ds → es[i]? = some d → R ds d) := by
  rcases DataW.trod_slice ht h with ⟨rfl, hx⟩ | ⟨a, len, cap, elems, rest, n, hf, rfl, hx, hb, hl, hcap, hm, hel, _, _⟩
  · exact ⟨_, [], rfl, .nil sz, .inl ⟨by rw [hx], rfl⟩⟩
  · have hch : ∀ i, ∃ p : List Value × List Dat, i < len → (w.cells? base (a.add (i * sz)) sz = some p.1 ∧ p.2.length = p.1.length ∧ (∀ (j : Nat) v d, p.1[j]? = some v → p.2[j]? = some d → Rd w noM v d) ∧ ∀ y, elems[i]? = some y → R p.2 y.1) := by
      intro i
      by_cases hi : i < len
      · have h1 := hel i hi
        rw [List.getElem?_eq_getElem (by omega)] at h1
        obtain ⟨cs', h2, h3⟩ := Option.bind_eq_some_iff.1 h1
        obtain ⟨ds, h4, h5, h6⟩ := hR n cs' _ (by omega) h3
        rw [hc] at h2
        refine ⟨(cs', ds), fun _ => ⟨h2, h4, h5, fun y hy => ?_⟩⟩
        rw [List.getElem?_eq_getElem (by omega)] at hy
        obtain rfl := Option.some.inj hy
        exact h6
      · exact ⟨([], []), fun h => absurd h hi⟩
    obtain ⟨p, hp⟩ := Classical.axiomOfChoice hch
    have hlen : ∀ i, i < len → (p i).2.length = sz := fun i hi => by
      obtain ⟨h1, h2, _⟩ := hp i hi
      rw [h2]; exact (World.cells?_some h1).2.1
    obtain ⟨g1, g2⟩ := flat_get (f := fun i => (p i).2) len hlen
    have hcell : ∀ i j, i < len → j < sz → w.cell? (a.add (i * sz + j)) = (p i).1[j]? := fun i j hi hj => by
      have := (World.cells?_some (hp i hi).1).2.2 j hj
      rwa [add_add'] at this
    have hval : ∀ i j, i < len → j < sz → ∃ v, (p i).1[j]? = some v := fun i j hi hj => by
      have : (p i).1.length = sz := (World.cells?_some (hp i hi).1).2.1
      exact ⟨_, List.getElem?_eq_getElem (by omega)⟩
    refine ⟨_, (List.range len).map fun i => (p i).2, rfl, ?_, .inr ⟨_, _, by rw [hx], by simp [hm], fun i ds d hds hd => ?_⟩⟩
    · refine .sl a len cap sz _ (fun k => (w.cell? (a.add k)).getD undef) g1 hl (fun _ _ h => h) ?_ ?_
      · intro k d hk
        obtain ⟨i, j, hi, hj, rfl, hd⟩ := g2 k d hk
        obtain ⟨v, hv⟩ := hval i j hi hj
        rw [hcell i j hi hj, hv]; rfl
      · intro k d hk
        obtain ⟨i, j, hi, hj, rfl, hd⟩ := g2 k d hk
        obtain ⟨v, hv⟩ := hval i j hi hj
        rw [hcell i j hi hj, hv]
        exact (hp i hi).2.2.1 j v d hv hd
    · rw [List.getElem?_map] at hd
      obtain ⟨y, hy, rfl⟩ := Option.map_eq_some_iff.1 hd
      have hil : i < len := by have := (List.getElem?_eq_some_iff.1 hy).1; omega
      rw [List.getElem?_map, List.getElem?_range hil] at hds
      obtain rfl := Option.some.inj hds
      exact (hp i hil).2.2.2 y hy
theorem kdc_flat : ∀ l : List Tr, (l.map Tr.dc).flatten = kdc l
  | [] => by unfold kdc; rfl
  | t :: r => by rw [List.map_cons, List.flatten_cons, kdc_flat r]; conv => rhs; unfold kdc
theorem gatherX {es : List (DataW H)} : ∀ {dss : List (List Dat)}, dss.length = es.length → (∀ (i : Nat) ds d, dss[i]? = some ds → es[i]? = some d → ∃ t : Tr, ds = t.dc ∧ t.cnt ≤ Rows.uptoBulk d) → ∃ l : List Tr, dss = l.map Tr.dc ∧ kcnt l ≤ Rows.uptoBulkAll es := by
  induction es with
  | nil =>
    intro dss hl _
    exact ⟨[], List.length_eq_zero_iff.1 hl, by unfold kcnt; exact Nat.zero_le _⟩
  | cons d es ih =>
    intro dss hl h
    match dss, hl with
    | ds :: dss, hl =>
      obtain ⟨t, ht, hc⟩ := h 0 ds d rfl rfl
      obtain ⟨l, e, hk⟩ := ih (dss := dss) (by simpa using hl) fun i ds d h1 h2 => h (i + 1) ds d h1 h2
      refine ⟨t :: l, by rw [ht, e]; rfl, ?_⟩
      unfold kcnt
      show _ ≤ Rows.uptoBulk d + Rows.uptoBulkAll es
      omega
/-- A struct of two numbers and a slice of such structs. -/
theorem rd_tree {f0 f1 f2 : Field} (ht : P.underlying t = some (.struct #[f0, f1, f2])) (hC : P.cellsOf t = 3) (o0 : f0.offset = 0) (o1 : f1.offset = 1) (o2 : f2.offset = 2) (h0 : P.underlying f0.type = some (.int .i64)) (h1 : P.underlying f1.type = some (.int .i64))
    (c0 : P.cellsOf f0.type = 1) (c1 : P.cellsOf f1.type = 1) (h2 : P.underlying f2.type = some (.slice t)) (c2 : P.cellsOf f2.type = 1) : ∀ (fuel : Nat) (cs : List Value) (x : DataW H × List MemPlace), DataW.trod enc P w base spare held fuel t cs = some x →
    ∃ (k p : Int) (l : List Tr) (u : Value), cs = [.int .i64 k, .int .i64 p, u] ∧ Rd w noM u (.sl 3 (kdc l)) ∧ I64 k ∧ I64 p ∧ 1 + kcnt l ≤ Rows.uptoBulk x.1 := by
  intro fuel
  induction fuel using Nat.strongRecOn with
  | ind fuel ih =>
    intro cs x h
    obtain ⟨xs, m, hm, hx, h5, hlen, hg⟩ := DataW.trod_struct ht h
    rw [hC] at h5
    match cs, h5, xs, hlen with
    | [v0, v1, v2], _, [x0, x1, x2], _ =>
      have g0 := hg 0 f0 rfl
      have g1 := hg 1 f1 rfl
      have g2 := hg 2 f2 rfl
      simp [o0, o1, o2, c0, c1, c2] at g0 g1 g2
      obtain ⟨k, e0, b0⟩ := rd_int h0 g0
      obtain ⟨p, e1, b1⟩ := rd_int h1 g1
      simp at e0 e1
      subst e0; subst e1
      obtain ⟨v, dss, e2, hr, hd⟩ := rd_sliceX h2 hC (fun ds d => ∃ t : Tr, ds = t.dc ∧ t.cnt ≤ Rows.uptoBulk d) (fun n cs' y hn hy => by
        obtain ⟨k', p', l', u', rfl, hr', _, _, hb'⟩ := ih n (by omega) cs' y hy
        refine ⟨(Tr.mk k' p' l').dc, by rw [dc_len]; rfl, fun j v d hv hd => ?_, _, rfl, by unfold Tr.cnt; exact hb'⟩
        unfold Tr.dc at hd
        match j with
        | 0 => simp at hv hd; subst hv; subst hd; exact .val _
        | 1 => simp at hv hd; subst hv; subst hd; exact .val _
        | 2 => simp at hv hd; subst hv; subst hd; exact hr'
        | j + 3 => simp at hv) g2
      simp at e2
      subst e2
      have hbx : Rows.uptoBulk x.1 = Rows.uptoBulk x0.1 + (Rows.uptoBulk x1.1 + (Rows.uptoBulk x2.1 + 0)) + 1 := by rw [hx]; rfl
      rcases hd with ⟨e3, rfl⟩ | ⟨es, sp, e3, hdl, hdd⟩
      · refine ⟨k, p, [], v2, rfl, ?_, b0, b1, ?_⟩
        · unfold kdc; exact hr
        · unfold kcnt; omega
      · obtain ⟨l, e4, hk⟩ := gatherX hdl hdd
        refine ⟨k, p, l, v2, rfl, ?_, b0, b1, ?_⟩
        · rw [← kdc_flat, ← e4]; exact hr
        · have : Rows.uptoBulk x2.1 = Rows.uptoBulkAll es + Rows.uptoBulkAll sp + 1 := by rw [e3]; rfl
          omega
end
section
variable {H : Type} {enc : TypeId × Value → H} {P : Program} {w : World} {base : Nat} {spare : Nat → Bool} {held : Bool} {t e : TypeId} {v : Value} {d : DataW H} {ps : List MemPlace} {r : Go.Reach} {b0 : Nat}
theorem arg_tree {f0 f1 f2 : Field} (ht : P.underlying t = some (.struct #[f0, f1, f2])) (hC : P.cellsOf t = 3) (o0 : f0.offset = 0) (o1 : f1.offset = 1) (o2 : f2.offset = 2) (h0 : P.underlying f0.type = some (.int .i64)) (h1 : P.underlying f1.type = some (.int .i64))
    (c0 : P.cellsOf f0.type = 1) (c1 : P.cellsOf f1.type = 1) (h2 : P.underlying f2.type = some (.slice t)) (c2 : P.cellsOf f2.type = 1) (hval : Value.okWide P w r b0 t v) (hd : DataW.Trod enc P w base spare held t v d ps) :
    ∃ k p l u, v = .agg #[.int .i64 k, .int .i64 p, u] ∧ Rd w noM u (.sl 3 (kdc l)) ∧ I64 k ∧ I64 p ∧ 1 + kcnt l ≤ Rows.uptoBulk d := by
  obtain ⟨cs, rfl, hsz⟩ := okWide_struct ht hval
  obtain ⟨fuel, hf⟩ := hd
  obtain ⟨k, p, l, u, e, h3, h4, h5, h6⟩ := rd_tree ht hC o0 o1 o2 h0 h1 c0 c1 h2 c2 fuel _ _ hf
  refine ⟨k, p, l, u, ?_, h3, h4, h5, h6⟩
  obtain ⟨lst⟩ := cs
  simp only [Value.cells] at e
  rw [e]
theorem gm_tree {w : World} {u : Value} {k p : Int} {l : List Tr} (h : Rd w noM u (.sl 3 (kdc l))) : Gm [] w (Ban [] []) (.agg [.val (.int .i64 k), .val (.int .i64 p), tks l]) (.agg #[.int .i64 k, .int .i64 p, u]) :=
  .agg _ _ rfl fun i av v h1 h2 => by
    match i with
    | 0 => simp at h1 h2; subst h1; subst h2; exact .val _
    | 1 => simp at h1 h2; subst h1; subst h2; exact .val _
    | 2 => simp at h1 h2; subst h1; subst h2; exact .ro _ _ (rd_own h)
    | i + 3 => simp at h1
end
theorem bulk_app {H : Type} : ∀ (a b : List (DataW H)), Rows.uptoBulkAll (a ++ b) = Rows.uptoBulkAll a + Rows.uptoBulkAll b
  | [], b => by show _ = 0 + _; rw [Nat.zero_add]; rfl
  | d :: a, b => by
    show Rows.uptoBulk d + Rows.uptoBulkAll (a ++ b) = (Rows.uptoBulk d + Rows.uptoBulkAll a) + _
    rw [bulk_app a b]; omega
theorem bulk_at {H : Type} {ds gs : List (DataW H)} (h : Rows.uptoSmall H (ds ++ gs) = true) : ∀ {i : Nat} {d}, ds[i]? = some d → Rows.uptoBulk d ≤ 1048576 := by
  have h := of_decide_eq_true h
  rw [bulk_app] at h
  intro i d hd
  have : ∀ (ds : List (DataW H)) (i : Nat), ds[i]? = some d → Rows.uptoBulk d ≤ Rows.uptoBulkAll ds := by
    intro ds
    induction ds with
    | nil => intro i h; simp at h
    | cons a ds ih =>
      intro i h
      show _ ≤ Rows.uptoBulk a + Rows.uptoBulkAll ds
      cases i with
      | zero => simp at h; subst h; omega
      | succ i => have := ih i (by simpa using h); omega
  have := this ds i hd
  omega
section
variable {H : Type} {enc : TypeId × Value → H}
theorem witness_U {C : Checked} {os : Os} {f : FuncId} {fn : Func} {s : OpenSpec} {conds : List PathCond} {laid : List (String × DataW Unit)} (modest : Bool) (w0 : World) (args : Array Value) (hos : w0.os = os)
    (hsh : (w0.forCall (fun _ _ => 0) ⟨#[], args, []⟩).Shaped C.prog)
    (hok : Input.okWideB C.prog (w0.forCall (fun _ _ => 0) ⟨#[], args, []⟩) f ⟨#[], args, []⟩ = true)
    (hrow : s.preRow enc C.prog fn conds false laid (w0.forCall (fun _ _ => 0) ⟨#[], args, []⟩).memory args) :
    ∃ (w : World) (tape : Tape) (i : Input), w.os = os ∧ (w.forCall tape i).Shaped C.prog ∧ i.vars = [] ∧ Input.okWide C.prog (w.forCall tape i) .any w.heap.size f i ∧
      s.preRow enc C.prog fn conds false laid (w.forCall tape i).memory i.args ∧ ({ modest := modest } : Assume).holds C.prog (lone (Frame.enter C.prog f i.args .normal) [] (w.forCall tape i)) :=
  ⟨w0, fun _ _ => 0, ⟨#[], args, []⟩, hos, hsh, (Input.okWide_of_okWideB (base := 0) hok).1, (Input.okWide_of_okWideB hok).2, hrow, by
    simp only [Assume.holds]
    exact ⟨by simp, by simp, fun _ => Modest.zero, by simp, by simp⟩⟩
/-- The frame of a law that is said of what is of bounded bulk. -/
theorem law_frameU {C : Checked} {os : Os} {f : FuncId} {fn : Func} {s : ChangeSpec} {conds : List PathCond} {B : TypeId} {laid : List (String × DataW Unit)} {F : Stop.Interp}
    (own : ownKnob C.prog.godebug = none) (started : os.Started) (noInit : C.prog.inits.idxOf? f = none) (hfn : C.prog.funcs[f]? = some fn)
    (witness : ∃ (w : World) (tape : Tape) (i : Input), w.os = os ∧ (w.forCall tape i).Shaped C.prog ∧ i.vars = [] ∧ Input.okWide C.prog (w.forCall tape i) .any w.heap.size f i ∧
      (Rows.OpenSpec.upto s).preRow enc C.prog fn conds false laid (w.forCall tape i).memory i.args ∧ ({} : Assume).holds C.prog (lone (Frame.enter C.prog f i.args .normal) [] (w.forCall tape i)))
    (hl : laidOutB C.prog = true) (hres : fn.resultTypes = #[B]) (hB : C.prog.underlying B = some .bool)
    (hts : (fn.params.toList.all fun t => C.prog.readableRec t && decide (t < C.prog.types.size)) = true) (hvars : s.vars = [])
    (hfnS : ∀ ds : List (DataW H), ds.length = fn.params.toList.length → s.fn H ds = ⟨[.lit (.bool true)], ds, []⟩)
    (hT : ∀ W : World, laidMetH C.prog laid W → TabG [] W [])
    (calls : ∀ (W : World) (base : Nat) (args : Array Value) (ds gs : List (DataW H)) (p : List MemPlace), (∀ (j : Nat) t v, fn.params[j]? = some t → args[j]? = some v → Value.okWide C.prog W .any base t v) →
      Rows.uptoSmall H (ds ++ gs) = true → DataW.TrodAll enc C.prog W 0 (fun _ => true) true fn.params.toList args.toList ds p → ∃ avs, GmL W avs args.toList ∧ AC C.prog f avs [] (.val (.bool true)) []) :
    ReturnsInHanded {} C os f .any ((Rows.OpenSpec.upto s).preRow enc C.prog fn conds false laid) (((Rows.OpenSpec.upto s).at F).post enc C.prog fn false true false false) := by
  refine returnsInHanded_of_row (C := C) (s := Rows.OpenSpec.upto s) own started noInit hfn witness ?_
  intro W base args ds gs before hval hW _ hk _ hL _ _
  exact law_end hl hres hB hts hvars hfnS hW (hT W hL) fun p hA => calls W base args ds gs p hval (hk _ rfl) hA
end
end Go.Proofs.YtbgecpjlopdkfaaDoor
