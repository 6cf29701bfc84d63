import Derived.Test.YtbgecpjlopdkfaaDoorSra
import Derived.Test.YtbgecpjlopdkfaaDoorEngZzh
import Derived.Test.YtbgecpjlopdkfaaDoorEngZf
set_option linter.unusedSimpArgs false
set_option linter.unusedVariables false
set_option linter.unusedSectionVars false
namespace Go.Proofs.YtbgecpjlopdkfaaDoor
open Go.RowKit
variable {P : Program} {st : St} {ty : TypeId} {pos : String} {af : Array Edge} {d : Option Tmp} {g : Option (Nat × Bool)} {T : TypeId} {x : Operand}
theorem P_ixcK {sz : Nat} {ix : Operand} {e : TypeId} {cs : List Dat} {i : Int} {o m : Nat} (hx : st.ev x = .ro (.sl sz cs)) (hi : st.ev ix = .val (.int .i64 i)) (hio : i = (o : Int)) (ht : SlT P T e sz) (hl : cs.length = m * sz) (h : o < m) (h0 : 0 < sz) :
    POp P ⟨d, .indexAddr T x ix, ty, pos, af, g⟩ st (.rpt cs (o * sz)) := fun _ ρ w a hr => by
  have hg := hr.ev x
  rw [hx] at hg
  have hrd : Rd w (Ban ρ st.objs) (a.eval x) (.sl sz cs) := hg.ro_inv
  obtain ⟨u, hu⟩ : ∃ u, a.eval x = u := ⟨_, rfl⟩
  rw [hu] at hrd
  cases hrd with
  | nil _ =>
    rw [List.length_nil] at hl
    have := Nat.mul_pos (show 0 < m by omega) h0
    omega
  | sl ad n' cap _ _ us hn' hsp hM hc hd =>
    have hmn : m = n' := Nat.eq_of_mul_eq_mul_right h0 (by omega)
    refine ⟨.pointer (some (ad.add (o * sz))), .rpt ad _ _ us trivial hM hc hd, fun w1 => ?_⟩
    have := run_indexAt_slice (P := P) ht ad n' cap .i64 i (by omega) (by omega) w1
    rw [show i.toNat * sz = o * sz by rw [hio, Int.toNat_natCast]] at this
    simp only [execOp, hu, hr.evv hi, Sem.run_bind, this, Result.andThen_ok, Sem.run_pure]
theorem P_ixRw {ix : Operand} {e : TypeId} {l : List (List Int)} {i : Int} {o : Nat} (hx : st.ev x = rows l) (hi : st.ev ix = .val (.int .i64 i)) (ho : i = (o : Int)) (ht : SlT P T e 1) (h : o < l.length) :
    POp P ⟨d, .indexAddr T x ix, ty, pos, af, g⟩ st (.rpt (rowc l) o) := by
  have := P_ixcK (P := P) (st := st) (d := d) (ty := ty) (pos := pos) (af := af) (g := g) (x := x) (sz := 1) (m := l.length) hx hi ho ht (by rw [rowc_len, Nat.mul_one]) h (by decide)
  rwa [Nat.mul_one] at this
theorem P_ixIn {ix : Operand} {e : TypeId} {l : List Int} {i : Int} {o : Nat} (hx : st.ev x = ints l) (hi : st.ev ix = .val (.int .i64 i)) (ho : i = (o : Int)) (ht : SlT P T e 1) (h : o < l.length) :
    POp P ⟨d, .indexAddr T x ix, ty, pos, af, g⟩ st (.rpt (intc l) o) := by
  have := P_ixcK (P := P) (st := st) (d := d) (ty := ty) (pos := pos) (af := af) (g := g) (x := x) (sz := 1) (m := l.length) hx hi ho ht (by rw [intc_len, Nat.mul_one]) h (by decide)
  rwa [Nat.mul_one] at this
theorem R_ix_kid {ix : Operand} {e : TypeId} {l : List Tr} {i : Int} {o : Nat} (hx : st.ev x = tks l) (hi : st.ev ix = .val (.int .i64 i)) (ho : i = (o : Int)) (ht : SlT P T e 3) (h : o < l.length) :
    ROp P ⟨d, .indexAddr T x ix, ty, pos, af, g⟩ st (.rpt (kdc l) (o * 3)) := POp.r (P_ixcK (m := l.length) hx hi ho ht (kdc_len l) h (by decide))
theorem R_ld_seg {cs ds : List Dat} {o n : Nat} (hx : st.ev x = .rpt cs o) (hc : ∀ (j : Nat) dt, ds[j]? = some dt → cs[o + j]? = some dt) (hn : ds.length = n) (ht : AgT P T n) : ROp P ⟨d, .load T x, ty, pos, af, g⟩ st (.agg (ds.map ofD)) := fun zs ρ w a hr => by
  have h := hr.ev x
  rw [hx] at h
  obtain ⟨ad, us, he, hsp, hM, hcl, hd⟩ := h.rpt_inv
  refine ⟨.agg ((List.range n).map fun j => us (o + j)).toArray, .agg _ _ (by simp [hn]) fun i av v h1 h2 => ?_, fun w1 hw => ?_⟩
  · simp only [List.getElem?_map, Option.map_eq_some_iff] at h1
    obtain ⟨dt, h3, rfl⟩ := h1
    have hi : i < n := by rw [← hn]; exact (List.getElem?_eq_some_iff.1 h3).1
    simp [hi] at h2
    subst h2
    exact gm_ofD (hd _ dt (hc i dt h3))
  · have := run_loadAgg (P := P) (w := w1) ht (ad.add o) ((List.range n).map fun j => us (o + j)) (by simp) fun j v hv => by
      simp only [List.getElem?_map, Option.map_eq_some_iff] at hv
      obtain ⟨j', h3, rfl⟩ := hv
      have hj : j < n := by simpa using (List.getElem?_eq_some_iff.1 h3).1
      obtain rfl : j = j' := by simpa [hj] using h3
      have hcj := hc j _ (List.getElem?_eq_getElem (by omega))
      rw [add_add']
      exact same_cell (hM _ (List.getElem?_eq_some_iff.1 hcj).1) (hcl _ _ hcj) hw
    simp [execOp, he, Instr.loadAt, Instr.sureAddr, this]
theorem R_ld_kid {l : List Tr} {o : Nat} {k p : Int} {r : List Tr} (hx : st.ev x = .rpt (kdc l) (o * 3)) (h : o < l.length) (he : l[o] = .mk k p r) (ht : AgT P T 3) : ROp P ⟨d, .load T x, ty, pos, af, g⟩ st (.agg [.val (.int .i64 k), .val (.int .i64 p), tks r]) := by
  have := R_ld_seg (P := P) (d := d) (ty := ty) (pos := pos) (af := af) (g := g) (x := x) (st := st) (T := T) (ds := (l[o]).dc) hx (fun j dt hj => by
    have hj3 : j < 3 := by have := (List.getElem?_eq_some_iff.1 hj).1; rw [dc_len] at this; exact this
    rw [kdc_get h j hj3]; exact hj) (dc_len _) ht
  rw [he] at this
  have e : (Tr.mk k p r).dc.map ofD = [.val (.int .i64 k), .val (.int .i64 p), tks r] := by unfold Tr.dc tks; rfl
  rwa [e] at this
end Go.Proofs.YtbgecpjlopdkfaaDoor
set_option linter.unusedSimpArgs false
set_option linter.unusedVariables false
set_option linter.unusedSectionVars false
namespace Go.Proofs.YtbgecpjlopdkfaaDoor
open Go.RowKit
variable {P : Program} {st : St} {ty : TypeId} {pos : String} {af : Array Edge} {d : Option Tmp} {g : Option (Nat × Bool)} {T T' : TypeId} {x y : Operand}
theorem P_quoN {m n : Nat} (hx : st.ev x = .val (.int .i64 (m : Int))) (hy : st.ev y = .val (.int .i64 (n : Int))) (h : m ≤ 9223372036854775807) (hn : 0 < n) : POp P ⟨d, .binOp .quo T x y T', ty, pos, af, g⟩ st (.val (.int .i64 ((m / n : Nat) : Int))) := fun _ ρ w a hr => ⟨_, .val _, fun w1 => by
  have e : (binOp .quo T (.int .i64 (m : Int)) (.int .i64 (n : Int))).run P w1 = .ok (.int .i64 ((m / n : Nat) : Int)) w1 := by
    have h0 : ¬ n = 0 := by omega
    have h1 : IntKind.i64.wrap ((m : Int) / (n : Int)) = (m : Int) / (n : Int) := by
      rw [← Int.natCast_ediv]
      have := Nat.div_le_self m n
      have key : ∀ q : Nat, q ≤ m → IntKind.i64.wrap (q : Int) = (q : Int) := fun q hq => IntWalk.i64_in _ ⟨by omega, by omega⟩
      exact key _ this
    rw [Int.natCast_ediv]
    simp [binOp, Op.intDiv, h0, h1]
  simp only [execOp, hr.evv hx, hr.evv hy, Sem.run_bind, run_eqGuard_int, Result.andThen_ok, e, Sem.run_pure]⟩
theorem P_remN {m n : Nat} (hx : st.ev x = .val (.int .i64 (m : Int))) (hy : st.ev y = .val (.int .i64 (n : Int))) (hn : 0 < n) : POp P ⟨d, .binOp .rem T x y T', ty, pos, af, g⟩ st (.val (.int .i64 ((m % n : Nat) : Int))) := fun _ ρ w a hr => ⟨_, .val _, fun w1 => by
  have e : (binOp .rem T (.int .i64 (m : Int)) (.int .i64 (n : Int))).run P w1 = .ok (.int .i64 ((m % n : Nat) : Int)) w1 := by
    have h0 : ¬ n = 0 := by omega
    have h1 := Int.tmod_eq_emod_of_nonneg (show (0 : Int) ≤ (m : Int) by omega) (b := (n : Int))
    rw [Int.natCast_emod]
    simp [binOp, Op.intDiv, h0, h1]
  simp only [execOp, hr.evv hx, hr.evv hy, Sem.run_bind, run_eqGuard_int, Result.andThen_ok, e, Sem.run_pure]⟩
end Go.Proofs.YtbgecpjlopdkfaaDoor
