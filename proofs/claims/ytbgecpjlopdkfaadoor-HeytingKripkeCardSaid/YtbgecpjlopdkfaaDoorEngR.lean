/- What a law is handed, read once for all; from the walk of a law to what is said of it. -/
import Derived.Test.YtbgecpjlopdkfaaDoorEngA
import Derived.ProofKit
import Derived.Deep.Slices
import Derived.OpenShut
import Derived.Stop.Joined
set_option linter.unusedSimpArgs false
set_option linter.unusedVariables false
set_option linter.unusedSectionVars false
namespace Go.Proofs.YtbgecpjlopdkfaaDoor
open Go.ChangeShapes Go.WideShapes Go.RowKit Go.Deep

def I64 (n : Int) : Prop := -9223372036854775808 ≤ n ∧ n ≤ 9223372036854775807
def noM : Nat → Prop := fun _ => False
abbrev big : Nat := 9223372036854775807

theorem noM_own {ρ : Ids} {b : Nat} (h : Own ρ [] b) : noM b := by
  obtain ⟨id, o, l, ho, _⟩ := h
  simp at ho
/-- A law is handed all that it reads: nothing is barred. -/
instance zs0 : Zs := ⟨fun _ => False⟩
theorem rd_own {w : World} {ρ : Ids} {v : Value} {d : Dat} (h : Rd w noM v d) : Rd w (Ban ρ []) v d := h.mono (Same.refl noM w) (fun _ _ h => h.elim noM_own id)

theorem flat_get {f : Nat → List Dat} {sz : Nat} : ∀ (len : Nat), (∀ i, i < len → (f i).length = sz) → ((List.range len).map f).flatten.length = len * sz ∧
    ∀ (k : Nat) d, (((List.range len).map f).flatten)[k]? = some d → ∃ i j, i < len ∧ j < sz ∧ k = i * sz + j ∧ (f i)[j]? = some d
  | 0, _ => by simp
  | len + 1, h => by
    obtain ⟨h1, h2⟩ := flat_get len (fun i hi => h i (by omega))
    rw [List.range_succ, List.map_append, List.flatten_append]
    simp only [List.map_cons, List.map_nil, List.flatten_cons, List.flatten_nil, List.append_nil]
    refine ⟨by rw [List.length_append, h1, h len (by omega), Nat.succ_mul], fun k d hk => ?_⟩
    rw [List.getElem?_append, h1] at hk
    split at hk
    · obtain ⟨i, j, hi, hj, hkk, hd⟩ := h2 k d hk
      exact ⟨i, j, by omega, hj, hkk, hd⟩
    · rename_i hge
      have hlt := (List.getElem?_eq_some_iff.1 hk).1
      rw [h len (by omega)] at hlt
      exact ⟨len, k - len * sz, by omega, hlt, by omega, hk⟩

theorem gather {α : Type} {F : α → List Dat} {G : α → Prop} : ∀ {dss : List (List Dat)}, (∀ ds ∈ dss, ∃ x, ds = F x ∧ G x) → ∃ l : List α, dss = l.map F ∧ (∀ x ∈ l, G x) ∧ l.length = dss.length
  | [], _ => ⟨[], rfl, by simp, rfl⟩
  | ds :: r, h => by
    obtain ⟨x, hx, hg⟩ := h ds (by simp)
    obtain ⟨l, hl, hlg, hn⟩ := gather (dss := r) (fun d hd => h d (List.mem_cons_of_mem _ hd))
    exact ⟨x :: l, by rw [hx, hl]; rfl, fun y hy => by
      rcases List.mem_cons.1 hy with rfl | hy
      · exact hg
      · exact hlg y hy, by simp [hn]⟩

section
variable {H : Type} {enc : TypeId × Value → H} {P : Program} {w : World} {base : Nat} {spare : Nat → Bool} {held : Bool} {fuel : Nat} {cs : List Value} {x : DataW H × List MemPlace} {t e : TypeId}

theorem rd_int (ht : P.underlying t = some (.int .i64)) (h : DataW.trod enc P w base spare held fuel t cs = some x) : ∃ n, cs = [.int .i64 n] ∧ I64 n := by
  obtain ⟨n, h1, _, h3⟩ := DataW.trod_int ht h
  refine ⟨n, h1, ?_⟩
  simp only [Lit.wf, Bool.and_eq_true, decide_eq_true_eq] at h3
  exact h3

theorem rd_slice {sz : Nat} (ht : P.underlying t = some (.slice e)) (hc : P.cellsOf e = sz) (R : List Dat → Prop)
    (hR : ∀ n cs' x, DataW.trod enc P w base spare held n e cs' = some x → ∃ ds : List Dat, ds.length = cs'.length ∧ (∀ (j : Nat) v d, cs'[j]? = some v → ds[j]? = some d → Rd w noM v d) ∧ R ds)
    (h : DataW.trod enc P w base spare held fuel t cs = some x) : ∃ (v : Value) (dss : List (List Dat)), cs = [v] ∧ Rd w noM v (.sl sz dss.flatten) ∧ (∀ ds ∈ dss, R ds) ∧ dss.length ≤ big := by
  rcases open_slice ht h with ⟨rfl, _⟩ | ⟨a, len, cap, m, n, D, Pl, rfl, hb, hl, hcap, hm, hx, hel⟩
  · exact ⟨_, [], rfl, .nil sz, by simp, Nat.zero_le _⟩
  · have hlm : len ≤ m := by rw [hm]; split <;> omega
    have hch : ∀ i, ∃ p : List Value × List Dat, i < len → (w.cells? base (a.add (i * sz)) sz = some p.1 ∧ p.2.length = p.1.length ∧ (∀ (j : Nat) v d, p.1[j]? = some v → p.2[j]? = some d → Rd w noM v d) ∧ R p.2) := by
      intro i
      by_cases hi : i < len
      · obtain ⟨cs', h1, h2⟩ := hel i (by omega)
        obtain ⟨ds, h3, h4, h5⟩ := hR _ _ _ h2
        rw [hc] at h1
        exact ⟨(cs', ds), fun _ => ⟨h1, h3, h4, h5⟩⟩
      · exact ⟨([], []), fun h => absurd h hi⟩
    obtain ⟨p, hp⟩ := Classical.axiomOfChoice hch
    have hlen : ∀ i, i < len → (p i).2.length = sz := fun i hi => by
      obtain ⟨h1, h2, _⟩ := hp i hi
      rw [h2]; exact (World.cells?_some h1).2.1
    obtain ⟨g1, g2⟩ := flat_get (f := fun i => (p i).2) len hlen
    have hcell : ∀ i j, i < len → j < sz → w.cell? (a.add (i * sz + j)) = (p i).1[j]? := fun i j hi hj => by
      have := (World.cells?_some (hp i hi).1).2.2 j hj
      rwa [add_add'] at this
    have hval : ∀ i j, i < len → j < sz → ∃ v, (p i).1[j]? = some v := fun i j hi hj => by
      have : (p i).1.length = sz := (World.cells?_some (hp i hi).1).2.1
      exact ⟨_, List.getElem?_eq_getElem (by omega)⟩
    refine ⟨_, (List.range len).map fun i => (p i).2, rfl, ?_, ?_, by simpa [maxLen] using Nat.le_trans hl hcap⟩
    · refine .sl a len cap sz _ (fun k => (w.cell? (a.add k)).getD undef) g1 hl (fun _ _ h => h) ?_ ?_
      · intro k d hk
        obtain ⟨i, j, hi, hj, rfl, hd⟩ := g2 k d hk
        obtain ⟨v, hv⟩ := hval i j hi hj
        rw [hcell i j hi hj, hv]; rfl
      · intro k d hk
        obtain ⟨i, j, hi, hj, rfl, hd⟩ := g2 k d hk
        obtain ⟨v, hv⟩ := hval i j hi hj
        rw [hcell i j hi hj, hv]
        exact (hp i hi).2.2.1 j v d hv hd
    · intro ds hds
      obtain ⟨i, hi, rfl⟩ := List.mem_map.1 hds
      exact (hp i (List.mem_range.1 hi)).2.2.2

theorem flatten_intc (l : List Int) : (l.map fun n => [Dat.val (.int .i64 n)]).flatten = intc l := by
  induction l with
  | nil => rfl
  | cons a r ih => rw [List.map_cons, List.flatten_cons, ih]; rfl
theorem rd_ints (ht : P.underlying t = some (.slice e)) (he : P.underlying e = some (.int .i64)) (hc : P.cellsOf e = 1) (h : DataW.trod enc P w base spare held fuel t cs = some x) :
    ∃ v l, cs = [v] ∧ Rd w noM v (.sl 1 (intc l)) ∧ (∀ x ∈ l, I64 x) ∧ l.length ≤ big := by
  obtain ⟨v, dss, h1, h2, h3, h4⟩ := rd_slice ht hc (fun ds => ∃ n, ds = [Dat.val (.int .i64 n)] ∧ I64 n) (fun n cs' x hx => by
    obtain ⟨k, rfl, hk⟩ := rd_int he hx
    refine ⟨[.val (.int .i64 k)], rfl, fun j v d hv hd => ?_, k, rfl, hk⟩
    match j with
    | 0 => simp at hv hd; subst hv; subst hd; exact .val _
    | j + 1 => simp at hv) h
  obtain ⟨l, rfl, hl, hn⟩ := gather h3
  rw [flatten_intc] at h2
  exact ⟨v, l, h1, h2, hl, by omega⟩

end
end Go.Proofs.YtbgecpjlopdkfaaDoor

/- The kinds of what laws are handed; a law that is walked to 'true' is what is said of it. -/
namespace Go.Proofs.YtbgecpjlopdkfaaDoor
open Go.ChangeShapes Go.WideShapes Go.RowKit

section
variable {H : Type} {enc : TypeId × Value → H} {P : Program} {w : World} {base : Nat} {spare : Nat → Bool} {held : Bool} {t e a : TypeId} {r : Go.Reach} {b0 : Nat} {v : Value} {d : DataW H} {ps : List MemPlace}

theorem ok_slice (ht : P.underlying t = some (.slice e)) (h : Value.okWide P w r b0 t v) : v.cells = #[v] := by
  simp only [Value.okWide, ht, Cell.okWide] at h
  cases v <;> simp_all [Cell.ok, Value.cells]

theorem arg_int (ht : P.underlying t = some (.int .i64)) (hval : Value.okWide P w r b0 t v) (hd : DataW.Trod enc P w base spare held t v d ps) : ∃ n, v = .int .i64 n ∧ I64 n := by
  obtain ⟨n, rfl⟩ := okWide_int ht hval
  obtain ⟨fuel, hf⟩ := hd
  obtain ⟨m, h1, h2⟩ := rd_int ht hf
  simp [Value.cells] at h1
  exact ⟨n, rfl, h1 ▸ h2⟩
theorem arg_ints (ht : P.underlying t = some (.slice e)) (he : P.underlying e = some (.int .i64)) (hc : P.cellsOf e = 1) (hval : Value.okWide P w r b0 t v) (hd : DataW.Trod enc P w base spare held t v d ps) :
    ∃ l, Rd w noM v (.sl 1 (intc l)) ∧ (∀ x ∈ l, I64 x) ∧ l.length ≤ big := by
  obtain ⟨fuel, hf⟩ := hd
  obtain ⟨u, l, h1, h2, h3, h4⟩ := rd_ints ht he hc hf
  rw [ok_slice ht hval] at h1
  simp at h1
  exact ⟨l, h1 ▸ h2, h3, h4⟩
/-- A struct of a number and a slice of numbers. -/
theorem arg_order {f0 f1 : Field} (ht : P.underlying t = some (.struct #[f0, f1])) (hC : P.cellsOf t = 2) (o0 : f0.offset = 0) (o1 : f1.offset = 1) (h0 : P.underlying f0.type = some (.int .i64)) (c0 : P.cellsOf f0.type = 1)
    (h1 : P.underlying f1.type = some (.slice e)) (c1 : P.cellsOf f1.type = 1) (he : P.underlying e = some (.int .i64)) (hc : P.cellsOf e = 1) (hval : Value.okWide P w r b0 t v) (hd : DataW.Trod enc P w base spare held t v d ps) :
    ∃ N l u, v = .agg #[.int .i64 N, u] ∧ Rd w noM u (.sl 1 (intc l)) ∧ I64 N ∧ (∀ x ∈ l, I64 x) ∧ l.length ≤ big := by
  obtain ⟨cs, rfl, hsz⟩ := okWide_struct ht hval
  obtain ⟨fuel, hf⟩ := hd
  obtain ⟨l⟩ := cs
  match l, hsz.trans hC with
  | [a0, a1], _ =>
    obtain ⟨xs, n, _, _, _, hlen, hg⟩ := DataW.trod_struct ht hf
    match xs, hlen with
    | [x0, x1], _ =>
      have g0 := hg 0 f0 rfl
      have g1 := hg 1 f1 rfl
      simp [Value.cells, o0, o1, c0, c1] at g0 g1
      obtain ⟨N, e0, b0⟩ := rd_int h0 g0
      obtain ⟨u, l, e1, b1, b2, b3⟩ := rd_ints h1 he hc g1
      simp at e0 e1
      subst e0; subst e1
      exact ⟨N, l, a1, rfl, b1, b0, b2, b3⟩
end

theorem gm_ints {w : World} {v : Value} {l : List Int} (h : Rd w noM v (.sl 1 (intc l))) : Gm [] w (Ban [] []) (ints l) v := .ro _ _ (rd_own h)
theorem gm_order {w : World} {u : Value} {N : Int} {l : List Int} (h : Rd w noM u (.sl 1 (intc l))) : Gm [] w (Ban [] []) (.agg [.val (.int .i64 N), ints l]) (.agg #[.int .i64 N, u]) :=
  .agg _ _ rfl fun i av v h1 h2 => by
    match i with
    | 0 => simp at h1 h2; subst h1; subst h2; exact .val _
    | 1 => simp at h1 h2; subst h1; subst h2; exact gm_ints h
    | i + 2 => simp at h1

def GmL (w : World) : List AV → List Value → Prop
  | [], [] => True
  | av :: l, v :: r => Gm [] w (Ban [] []) av v ∧ GmL w l r
  | _, _ => False
theorem gmL_spec {w : World} : ∀ {l : List AV} {r : List Value}, GmL w l r → r.length = l.length ∧ ∀ (i : Nat) (av : AV) (v : Value), l[i]? = some av → r[i]? = some v → Gm [] w (Ban [] []) av v
  | [], [], _ => ⟨rfl, fun i av v h => by simp at h⟩
  | av :: l, v :: r, h => by
    obtain ⟨h1, h2⟩ := gmL_spec h.2
    refine ⟨by simp [h1], fun i av' v' ha hv => ?_⟩
    cases i with
    | zero => simp at ha hv; subst ha; subst hv; exact h.1
    | succ i => exact h2 i av' v' (by simpa using ha) (by simpa using hv)

section
variable {H : Type} {enc : TypeId × Value → H}
theorem trodAll_below {P : Program} (hl : laidOutB P = true) {W W' : World} (hb : Below W.heap.size W W') : ∀ {ts : List TypeId} {vs : List Value} {ds : List (DataW H)} {ps : List MemPlace},
    (∀ t ∈ ts, P.readableRec t = true ∧ t < P.types.size) → DataW.TrodAll enc P W 0 (fun _ => true) true ts vs ds ps → (∀ x ∈ ps, x.block < W.heap.size) → DataW.TrodAll enc P W' 0 (fun b => decide (b < W.heap.size)) true ts vs ds ps
  | [], [], [], _, _, h, _ => h
  | t :: ts, v :: vs, d :: ds, _, hts, ⟨p, q, h1, h2, h3⟩, hlt => by
    subst h3
    exact ⟨p, q, Below.trod hl (hts t (by simp)).1 (hts t (by simp)).2 h1 hb (fun x hx => hlt x (by simp [hx])), trodAll_below hl hb (fun t ht => hts t (List.mem_cons_of_mem _ ht)) h2 (fun x hx => hlt x (by simp [hx])), rfl⟩

theorem trodAll_len {P : Program} {w : World} {base : Nat} {spare : Nat → Bool} {held : Bool} : ∀ {ts : List TypeId} {vs : List Value} {ds : List (DataW H)} {ps : List MemPlace}, DataW.TrodAll enc P w base spare held ts vs ds ps → ds.length = ts.length
  | [], [], [], _, _ => rfl
  | t :: ts, v :: vs, d :: ds, _, ⟨_, _, _, h2, _⟩ => by simp [trodAll_len h2]

theorem good_nil (w : World) (ht : TabG [] w []) : Good [] w [] := ⟨rfl, fun id o h => by simp at h, fun i j b h => (by obtain ⟨o, l, ho, _⟩ := h; simp at ho), fun i b h => (by obtain ⟨o, l, ho, _⟩ := h; simp at ho), fun _ h => h.elim, ht⟩
theorem law_end {P : Program} {f : FuncId} {fn : Func} {s : ChangeSpec} {B : TypeId}
    (hl : laidOutB P = true) (hres : fn.resultTypes = #[B]) (hB : P.underlying B = some .bool)
    (hts : (fn.params.toList.all fun t => P.readableRec t && decide (t < P.types.size)) = true) (hvars : s.vars = [])
    (hfnS : ∀ ds : List (DataW H), ds.length = fn.params.toList.length → s.fn H ds = ⟨[.lit (.bool true)], ds, []⟩) {W : World} {args : Array Value} {ds gs : List (DataW H)} {before : List MemPlace}
    (hW : DataW.Whole enc P fn.params.toList s.vars false W args.toList ds gs before) (ht : TabG [] W [])
    (calls : ∀ p, DataW.TrodAll enc P W 0 (fun _ => true) true fn.params.toList args.toList ds p → ∃ avs, GmL W avs args.toList ∧ AC P f avs [] (.val (.bool true)) []) :
    Calls P f args W fun e W' => ∃ v, e = .returned v ∧ s.post enc P fn false true false false W args v W' := by
  have hW' := hW
  obtain ⟨p, q, hA, hV, rfl, hfz, hnd⟩ := hW
  rw [hvars] at hV
  obtain ⟨rfl, rfl⟩ := trodVars_none hV
  obtain ⟨avs, h1, h3⟩ := calls p hA
  obtain ⟨g1, g2⟩ := gmL_spec h1
  refine (h3.2 [] W args (good_nil W ht) (by simpa using g1) (fun i av v ha hv => g2 i av v ha (by simpa using hv))).mono ?_
  rintro e W' ⟨v, ρ', rfl, hs, _, hg, _, _⟩
  have hb := hs.below (fun x _ h => noM_own h)
  have hts' : ∀ t ∈ fn.params.toList, P.readableRec t = true ∧ t < P.types.size := fun t ht => by
    have := List.all_eq_true.1 hts t ht
    simpa using this
  rw [hg.val_inv]
  have hS := hfnS (ds ++ []) (by rw [List.append_nil]; exact trodAll_len hA)
  refine ⟨_, rfl, ds, [], p ++ [], [], p, [], hW', ?_, ?_, ?_, hb.frame _, fun h => by cases h⟩
  · rw [hS, hres]
    exact ⟨[], [], ⟨1, by simp [DataW.trod, hB, Value.cells]⟩, rfl, rfl⟩
  · rw [hS, List.append_nil]
    exact trodAll_below hl hb hts' hA (fun x hx => by simpa using hW'.lt x (by simpa using hx))
  · rw [hS, hvars]
    rfl
/-- The same for a law whose row lists tables. -/
theorem law_frameT {C : Checked} {os : Os} {f : FuncId} {fn : Func} {s : ChangeSpec} {conds : List PathCond} {B : TypeId} {laid : List (String × DataW Unit)}
    (own : ownKnob C.prog.godebug = none) (started : os.Started) (noInit : C.prog.inits.idxOf? f = none) (hfn : C.prog.funcs[f]? = some fn)
    (witness : ∃ (w : World) (tape : Tape) (i : Input), w.os = os ∧ (w.forCall tape i).Shaped C.prog ∧ i.vars = [] ∧ Input.okWide C.prog (w.forCall tape i) .any w.heap.size f i ∧
      ((s.pre enc C.prog fn conds false (w.forCall tape i).memory i.args ∧ laidMetH C.prog laid (w.forCall tape i).memory) ∧ sizedMet enc C.prog fn (OpenSpec.ofChange s) false (w.forCall tape i).memory i.args) ∧ ({} : Assume).holds C.prog (lone (Frame.enter C.prog f i.args .normal) [] (w.forCall tape i)))
    (hl : laidOutB C.prog = true) (hres : fn.resultTypes = #[B]) (hB : C.prog.underlying B = some .bool)
    (hts : (fn.params.toList.all fun t => C.prog.readableRec t && decide (t < C.prog.types.size)) = true) (hvars : s.vars = [])
    (hfnS : ∀ ds : List (DataW H), ds.length = fn.params.toList.length → s.fn H ds = ⟨[.lit (.bool true)], ds, []⟩)
    (hT : ∀ W : World, laidMetH C.prog laid W → TabG [] W [])
    (calls : ∀ (W : World) (base : Nat) (args : Array Value) (ds : List (DataW H)) (p : List MemPlace), (∀ (j : Nat) t v, fn.params[j]? = some t → args[j]? = some v → Value.okWide C.prog W .any base t v) →
      DataW.TrodAll enc C.prog W 0 (fun _ => true) true fn.params.toList args.toList ds p → ∃ avs, GmL W avs args.toList ∧ AC C.prog f avs [] (.val (.bool true)) []) :
    ReturnsInHanded {} C os f .any (fun w args => (s.pre enc C.prog fn conds false w args ∧ laidMetH C.prog laid w) ∧ sizedMet enc C.prog fn (OpenSpec.ofChange s) false w args) (s.post enc C.prog fn false true false false) := by
  refine returnsInHanded_of_change_and (X := fun w _ => laidMetH C.prog laid w) (fun _ _ _ hh h => h.of_heap hh) own started noInit hfn witness ?_
  intro W base args ds gs before hval hW _ _ hL _
  exact law_end hl hres hB hts hvars hfnS hW (hT W hL) fun p hA => calls W base args ds p hval hA
end
end Go.Proofs.YtbgecpjlopdkfaaDoor

/- Five things handed to a law. -/
namespace Go.Proofs.YtbgecpjlopdkfaaDoor
open Go.ChangeShapes Go.WideShapes Go.RowKit
section
variable {H : Type} {enc : TypeId × Value → H} {P : Program} {w : World} {base : Nat} {spare : Nat → Bool} {held : Bool}
end
section
variable {H : Type} {enc : TypeId × Value → H} {P : Program} {w : World} {base : Nat} {spare : Nat → Bool} {held : Bool} {t e a : TypeId} {r : Go.Reach} {b0 : Nat} {v : Value} {d : DataW H} {ps : List MemPlace}
end
end Go.Proofs.YtbgecpjlopdkfaaDoor
