import Derived.Test.YtbgecpjlopdkfaaDoorEngZzx
import Derived.Test.YtbgecpjlopdkfaaDoorHfa
import Derived.Test.YtbgecpjlopdkfaaDoorSra
import Derived.Test.YtbgecpjlopdkfaaDoorEngZzh
import Derived.Test.YtbgecpjlopdkfaaDoorEngZf
set_option linter.unusedSimpArgs false
set_option linter.unusedVariables false
set_option linter.unusedSectionVars false
namespace Go.Proofs.YtbgecpjlopdkfaaDoor
open Go.ChangeShapes Go.WideShapes Go.RowKit Go.Deep
section
variable {H : Type} {enc : TypeId × Value → H} {P : Program} {w : World} {base : Nat} {spare : Nat → Bool} {held : Bool} {fuel : Nat} {cs : List Value} {x : DataW H × List MemPlace} {t e : TypeId}
theorem gatherS {es : List (DataW H)} : ∀ {dss : List (List Dat)}, dss.length = es.length → (∀ (i : Nat) ds d, dss[i]? = some ds → es[i]? = some d → ∃ t : Tr, ds = t.dc ∧ t.sml) → ∃ l : List Tr, dss = l.map Tr.dc ∧ ksml l := by
  induction es with
  | nil =>
    intro dss hl _
    exact ⟨[], List.length_eq_zero_iff.1 hl, by unfold ksml; trivial⟩
  | cons d es ih =>
    intro dss hl h
    match dss, hl with
    | ds :: dss, hl =>
      obtain ⟨t, ht, hc⟩ := h 0 ds d rfl rfl
      obtain ⟨l, e, hk⟩ := ih (dss := dss) (by simpa using hl) fun i ds d h1 h2 => h (i + 1) ds d h1 h2
      refine ⟨t :: l, by rw [ht, e]; rfl, ?_⟩
      unfold ksml
      exact ⟨hc, hk⟩
theorem rd_treeS {f0 f1 f2 : Field} (ht : P.underlying t = some (.struct #[f0, f1, f2])) (hC : P.cellsOf t = 3) (o0 : f0.offset = 0) (o1 : f1.offset = 1) (o2 : f2.offset = 2) (h0 : P.underlying f0.type = some (.int .i64)) (h1 : P.underlying f1.type = some (.int .i64))
    (c0 : P.cellsOf f0.type = 1) (c1 : P.cellsOf f1.type = 1) (h2 : P.underlying f2.type = some (.slice t)) (c2 : P.cellsOf f2.type = 1) : ∀ (fuel : Nat) (cs : List Value) (x : DataW H × List MemPlace), DataW.trod enc P w base spare held fuel t cs = some x →
    ∃ (k p : Int) (l : List Tr) (u : Value), cs = [.int .i64 k, .int .i64 p, u] ∧ Rd w noM u (.sl 3 (kdc l)) ∧ (Tr.mk k p l).sml := by
  intro fuel
  induction fuel using Nat.strongRecOn with
  | ind fuel ih =>
    intro cs x h
    obtain ⟨xs, m, hm, hx, h5, hlen, hg⟩ := DataW.trod_struct ht h
    rw [hC] at h5
    match cs, h5, xs, hlen with
    | [v0, v1, v2], _, [x0, x1, x2], _ =>
      have g0 := hg 0 f0 rfl
      have g1 := hg 1 f1 rfl
      have g2 := hg 2 f2 rfl
      simp [o0, o1, o2, c0, c1, c2] at g0 g1 g2
      obtain ⟨k, e0, b0⟩ := rd_int h0 g0
      obtain ⟨p, e1, b1⟩ := rd_int h1 g1
      simp at e0 e1
      subst e0; subst e1
      obtain ⟨v, dss, e2, hr, hd⟩ := rd_sliceX h2 hC (fun ds d => ∃ t : Tr, ds = t.dc ∧ t.sml) (fun n cs' y hn hy => by
        obtain ⟨k', p', l', u', rfl, hr', hb'⟩ := ih n (by omega) cs' y hy
        refine ⟨(Tr.mk k' p' l').dc, by rw [dc_len]; rfl, fun j v d hv hd => ?_, _, rfl, hb'⟩
        unfold Tr.dc at hd
        match j with
        | 0 => simp at hv hd; subst hv; subst hd; exact .val _
        | 1 => simp at hv hd; subst hv; subst hd; exact .val _
        | 2 => simp at hv hd; subst hv; subst hd; exact hr'
        | j + 3 => simp at hv) g2
      simp at e2
      subst e2
      have hlen2 : dss.length ≤ 9223372036854775807 := by
        rcases DataW.trod_slice h2 g2 with ⟨_, hx2⟩ | ⟨a, len, cap, elems, rest, n, _, _, hx2, _, hl, hcap, hm2, _, _, _⟩
        · rcases hd with ⟨_, rfl⟩ | ⟨es, sp, e3, _, _⟩
          · exact Nat.zero_le _
          · rw [hx2] at e3; cases e3
        · rcases hd with ⟨_, rfl⟩ | ⟨es, sp, e3, hdl, _⟩
          · exact Nat.zero_le _
          · rw [hx2] at e3
            injection e3 with e4 e5
            rw [hdl, ← e4, List.length_map, hm2]
            simpa [maxLen] using Nat.le_trans hl hcap
      rcases hd with ⟨e3, rfl⟩ | ⟨es, sp, e3, hdl, hdd⟩
      · refine ⟨k, p, [], v2, rfl, ?_, ?_⟩
        · unfold kdc; exact hr
        · unfold Tr.sml ksml; exact ⟨Nat.zero_le _, trivial⟩
      · obtain ⟨l, e4, hk⟩ := gatherS hdl hdd
        refine ⟨k, p, l, v2, rfl, ?_, ?_⟩
        · rw [← kdc_flat, ← e4]; exact hr
        · unfold Tr.sml
          refine ⟨?_, hk⟩
          rw [e4, List.length_map] at hlen2
          exact hlen2
end
section
variable {H : Type} {enc : TypeId × Value → H} {P : Program} {w : World} {base : Nat} {spare : Nat → Bool} {held : Bool} {t e : TypeId} {v : Value} {d : DataW H} {ps : List MemPlace} {r : Go.Reach} {b0 : Nat}
theorem arg_treeS {f0 f1 f2 : Field} (ht : P.underlying t = some (.struct #[f0, f1, f2])) (hC : P.cellsOf t = 3) (o0 : f0.offset = 0) (o1 : f1.offset = 1) (o2 : f2.offset = 2) (h0 : P.underlying f0.type = some (.int .i64)) (h1 : P.underlying f1.type = some (.int .i64))
    (c0 : P.cellsOf f0.type = 1) (c1 : P.cellsOf f1.type = 1) (h2 : P.underlying f2.type = some (.slice t)) (c2 : P.cellsOf f2.type = 1) (hval : Value.okWide P w r b0 t v) (hd : DataW.Trod enc P w base spare held t v d ps) :
    ∃ k p l u, v = .agg #[.int .i64 k, .int .i64 p, u] ∧ Rd w noM u (.sl 3 (kdc l)) ∧ (Tr.mk k p l).sml := by
  obtain ⟨cs, rfl, hsz⟩ := okWide_struct ht hval
  obtain ⟨fuel, hf⟩ := hd
  obtain ⟨k, p, l, u, e, h3, h4⟩ := rd_treeS ht hC o0 o1 o2 h0 h1 c0 c1 h2 c2 fuel _ _ hf
  refine ⟨k, p, l, u, ?_, h3, h4⟩
  obtain ⟨lst⟩ := cs
  simp only [Value.cells] at e
  rw [e]
end
/-! A formula that is not so: two formulas in a row; a list of no kids read as such. -/
def ntD : List Dat := [.val (.int .i64 1), .val (.int .i64 0), .val (.slice none 0 0)]
end Go.Proofs.YtbgecpjlopdkfaaDoor
set_option linter.unusedSimpArgs false
set_option linter.unusedVariables false
set_option linter.unusedSectionVars false
namespace Go.Proofs.YtbgecpjlopdkfaaDoor
open Go.RowKit
variable {P : Program} {st : St} {ty : TypeId} {pos : String} {af : Array Edge} {d : Option Tmp} {g : Option (Nat × Bool)} {T : TypeId} {x : Operand}
theorem P_ixcK {sz : Nat} {ix : Operand} {e : TypeId} {cs : List Dat} {i : Int} {o m : Nat} (hx : st.ev x = .ro (.sl sz cs)) (hi : st.ev ix = .val (.int .i64 i)) (hio : i = (o : Int)) (ht : SlT P T e sz) (hl : cs.length = m * sz) (h : o < m) (h0 : 0 < sz) :
    POp P ⟨d, .indexAddr T x ix, ty, pos, af, g⟩ st (.rpt cs (o * sz)) := fun _ ρ w a hr => by
  have hg := hr.ev x
  rw [hx] at hg
  have hrd : Rd w (Ban ρ st.objs) (a.eval x) (.sl sz cs) := hg.ro_inv
  obtain ⟨u, hu⟩ : ∃ u, a.eval x = u := ⟨_, rfl⟩
  rw [hu] at hrd
  cases hrd with
  | nil _ =>
    rw [List.length_nil] at hl
    have := Nat.mul_pos (show 0 < m by omega) h0
    omega
  | sl ad n' cap _ _ us hn' hsp hM hc hd =>
    have hmn : m = n' := Nat.eq_of_mul_eq_mul_right h0 (by omega)
    refine ⟨.pointer (some (ad.add (o * sz))), .rpt ad _ _ us trivial hM hc hd, fun w1 => ?_⟩
    have := run_indexAt_slice (P := P) ht ad n' cap .i64 i (by omega) (by omega) w1
    rw [show i.toNat * sz = o * sz by rw [hio, Int.toNat_natCast]] at this
    simp only [execOp, hu, hr.evv hi, Sem.run_bind, this, Result.andThen_ok, Sem.run_pure]
theorem P_ixRw {ix : Operand} {e : TypeId} {l : List (List Int)} {i : Int} {o : Nat} (hx : st.ev x = rows l) (hi : st.ev ix = .val (.int .i64 i)) (ho : i = (o : Int)) (ht : SlT P T e 1) (h : o < l.length) :
    POp P ⟨d, .indexAddr T x ix, ty, pos, af, g⟩ st (.rpt (rowc l) o) := by
  have := P_ixcK (P := P) (st := st) (d := d) (ty := ty) (pos := pos) (af := af) (g := g) (x := x) (sz := 1) (m := l.length) hx hi ho ht (by rw [rowc_len, Nat.mul_one]) h (by decide)
  rwa [Nat.mul_one] at this
theorem P_ixIn {ix : Operand} {e : TypeId} {l : List Int} {i : Int} {o : Nat} (hx : st.ev x = ints l) (hi : st.ev ix = .val (.int .i64 i)) (ho : i = (o : Int)) (ht : SlT P T e 1) (h : o < l.length) :
    POp P ⟨d, .indexAddr T x ix, ty, pos, af, g⟩ st (.rpt (intc l) o) := by
  have := P_ixcK (P := P) (st := st) (d := d) (ty := ty) (pos := pos) (af := af) (g := g) (x := x) (sz := 1) (m := l.length) hx hi ho ht (by rw [intc_len, Nat.mul_one]) h (by decide)
  rwa [Nat.mul_one] at this
theorem R_ix_kid {ix : Operand} {e : TypeId} {l : List Tr} {i : Int} {o : Nat} (hx : st.ev x = tks l) (hi : st.ev ix = .val (.int .i64 i)) (ho : i = (o : Int)) (ht : SlT P T e 3) (h : o < l.length) :
    ROp P ⟨d, .indexAddr T x ix, ty, pos, af, g⟩ st (.rpt (kdc l) (o * 3)) := POp.r (P_ixcK (m := l.length) hx hi ho ht (kdc_len l) h (by decide))
theorem R_ld_seg {cs ds : List Dat} {o n : Nat} (hx : st.ev x = .rpt cs o) (hc : ∀ (j : Nat) dt, ds[j]? = some dt → cs[o + j]? = some dt) (hn : ds.length = n) (ht : AgT P T n) : ROp P ⟨d, .load T x, ty, pos, af, g⟩ st (.agg (ds.map ofD)) := fun zs ρ w a hr => by
  have h := hr.ev x
  rw [hx] at h
  obtain ⟨ad, us, he, hsp, hM, hcl, hd⟩ := h.rpt_inv
  refine ⟨.agg ((List.range n).map fun j => us (o + j)).toArray, .agg _ _ (by simp [hn]) fun i av v h1 h2 => ?_, fun w1 hw => ?_⟩
  · simp only [List.getElem?_map, Option.map_eq_some_iff] at h1
    obtain ⟨dt, h3, rfl⟩ := h1
    have hi : i < n := by rw [← hn]; exact (List.getElem?_eq_some_iff.1 h3).1
    simp [hi] at h2
    subst h2
    exact gm_ofD (hd _ dt (hc i dt h3))
  · have := run_loadAgg (P := P) (w := w1) ht (ad.add o) ((List.range n).map fun j => us (o + j)) (by simp) fun j v hv => by
      simp only [List.getElem?_map, Option.map_eq_some_iff] at hv
      obtain ⟨j', h3, rfl⟩ := hv
      have hj : j < n := by simpa using (List.getElem?_eq_some_iff.1 h3).1
      obtain rfl : j = j' := by simpa [hj] using h3
      have hcj := hc j _ (List.getElem?_eq_getElem (by omega))
      rw [add_add']
      exact same_cell (hM _ (List.getElem?_eq_some_iff.1 hcj).1) (hcl _ _ hcj) hw
    simp [execOp, he, Instr.loadAt, Instr.sureAddr, this]
theorem R_ld_kid {l : List Tr} {o : Nat} {k p : Int} {r : List Tr} (hx : st.ev x = .rpt (kdc l) (o * 3)) (h : o < l.length) (he : l[o] = .mk k p r) (ht : AgT P T 3) : ROp P ⟨d, .load T x, ty, pos, af, g⟩ st (.agg [.val (.int .i64 k), .val (.int .i64 p), tks r]) := by
  have := R_ld_seg (P := P) (d := d) (ty := ty) (pos := pos) (af := af) (g := g) (x := x) (st := st) (T := T) (ds := (l[o]).dc) hx (fun j dt hj => by
    have hj3 : j < 3 := by have := (List.getElem?_eq_some_iff.1 hj).1; rw [dc_len] at this; exact this
    rw [kdc_get h j hj3]; exact hj) (dc_len _) ht
  rw [he] at this
  have e : (Tr.mk k p r).dc.map ofD = [.val (.int .i64 k), .val (.int .i64 p), tks r] := by unfold Tr.dc tks; rfl
  rwa [e] at this
end Go.Proofs.YtbgecpjlopdkfaaDoor
