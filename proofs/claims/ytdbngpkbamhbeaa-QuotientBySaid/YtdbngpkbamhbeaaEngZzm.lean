import Derived.Test.YtdbngpkbamhbeaaEngZzh
import Derived.Test.YtdbngpkbamhbeaaIr
set_option linter.unusedSimpArgs false
set_option linter.unusedVariables false
set_option linter.unusedSectionVars false
namespace Go.Proofs.Ytdbngpkbamhbeaa
open Go.RowKit
variable {P : Program} {st : St} {ty : TypeId} {pos : String} {af : Array Edge} {d : Option Tmp} {g : Option (Nat × Bool)} {T : TypeId} {x : Operand}
theorem P_ixc {ix : Operand} {e : TypeId} {cs : List Dat} {i : Int} {o : Nat} (hx : st.ev x = .ro (.sl 1 cs)) (hi : st.ev ix = .val (.int .i64 i)) (hio : i = (o : Int)) (ht : SlT P T e 1) (h : o < cs.length) :
    POp P ⟨d, .indexAddr T x ix, ty, pos, af, g⟩ st (.rpt cs o) := fun _ ρ w a hr => by
  have hg := hr.ev x
  rw [hx] at hg
  have hrd : Rd w (Ban ρ st.objs) (a.eval x) (.sl 1 cs) := hg.ro_inv
  obtain ⟨u, hu⟩ : ∃ u, a.eval x = u := ⟨_, rfl⟩
  rw [hu] at hrd
  cases hrd with
  | nil _ => rw [List.length_nil] at h; omega
  | sl ad n' cap _ _ us hn' hsp hM hc hd =>
    refine ⟨.pointer (some (ad.add o)), .rpt ad _ _ us trivial hM hc hd, fun w1 => ?_⟩
    have := run_indexAt_slice (P := P) ht ad n' cap .i64 i (by omega) (by omega) w1
    rw [show i.toNat * 1 = o by omega] at this
    simp only [execOp, hu, hr.evv hi, Sem.run_bind, this, Result.andThen_ok, Sem.run_pure]
theorem R_ix_tn {ix : Operand} {e : TypeId} {n : Nat} {M : List (List Nat)} {i : Int} {o : Nat} (hM : Sq n M) (hx : st.ev x = rows (tn M)) (hi : st.ev ix = .val (.int .i64 i)) (ho : i = (o : Int)) (ht : SlT P T e 1) (h : o < n) :
    ROp P ⟨d, .indexAddr T x ix, ty, pos, af, g⟩ st (.rpt (rowc (tn M)) o) := POp.r (P_ixc hx hi ho ht (by rw [rowc_len, tn_len, hM.len]; omega))
theorem R_ld_tn {n : Nat} {M : List (List Nat)} {o : Nat} (hM : Sq n M) (hx : st.ev x = .rpt (rowc (tn M)) o) (h : o < n) (ht : ScT P T) : ROp P ⟨d, .load T x, ty, pos, af, g⟩ st (ints (nl (M.getD o []))) := by
  rw [← tn_get]; exact R_ld_rs hx (rowc_get (by rw [tn_len, hM.len]; exact h)) ht
theorem R_ix_tr {ix : Operand} {e : TypeId} {n : Nat} {M : List (List Nat)} {r : Nat} {i : Int} {o : Nat} (hM : Sq n M) (hx : st.ev x = ints (nl (M.getD r []))) (hi : st.ev ix = .val (.int .i64 i)) (ho : i = (o : Int)) (ht : SlT P T e 1) (hr : r < n) (h : o < n) :
    ROp P ⟨d, .indexAddr T x ix, ty, pos, af, g⟩ st (.rpt (intc (nl (M.getD r []))) o) := POp.r (P_ixc hx hi ho ht (by rw [intc_len, nl_len, hM.row r hr]; omega))
theorem R_ld_ta {n : Nat} {M : List (List Nat)} {r o : Nat} (hM : Sq n M) (hx : st.ev x = .rpt (intc (nl (M.getD r []))) o) (hr : r < n) (h : o < n) (ht : ScT P T) :
    ROp P ⟨d, .load T x, ty, pos, af, g⟩ st (.val (.int .i64 ((ta M r o : Nat) : Int))) := by
  have := R_ld_rv (P := P) (d := d) (ty := ty) (pos := pos) (af := af) (g := g) hx (intc_get (l := nl (M.getD r [])) (o := o) (by rw [nl_len, hM.row r hr]; exact h)) ht
  rwa [nl_get] at this
theorem R_ix_nl {ix : Operand} {e : TypeId} {l : List Nat} {i : Int} {o : Nat} (hx : st.ev x = ints (nl l)) (hi : st.ev ix = .val (.int .i64 i)) (ho : i = (o : Int)) (ht : SlT P T e 1) (h : o < l.length) :
    ROp P ⟨d, .indexAddr T x ix, ty, pos, af, g⟩ st (.rpt (intc (nl l)) o) := POp.r (P_ixc hx hi ho ht (by rw [intc_len, nl_len]; omega))
theorem R_ld_nl {l : List Nat} {o : Nat} (hx : st.ev x = .rpt (intc (nl l)) o) (h : o < l.length) (ht : ScT P T) : ROp P ⟨d, .load T x, ty, pos, af, g⟩ st (.val (.int .i64 ((l.getD o 0 : Nat) : Int))) := by
  have := R_ld_rv (P := P) (d := d) (ty := ty) (pos := pos) (af := af) (g := g) hx (intc_get (l := nl l) (o := o) (by rw [nl_len]; exact h)) ht
  rwa [nl_get] at this
end Go.Proofs.Ytdbngpkbamhbeaa
